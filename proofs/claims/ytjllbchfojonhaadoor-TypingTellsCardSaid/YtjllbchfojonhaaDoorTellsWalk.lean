/- The law 'TypingTells': the walk. -/
import Derived.Test.YtjllbchfojonhaaDoorRefTy
import Derived.Test.YtjllbchfojonhaaDoorRefShB
import Derived.Test.YtjllbchfojonhaaDoorLives6
namespace Go.Proofs.YtjllbchfojonhaaDoor
open Go.RowKit
set_option linter.unusedVariables false
set_option linter.unusedSimpArgs false

theorem sblk_no {f : FuncM} {k : Nat} (hk : k < f.nb) (h : sblockB f.blocks.2[k]! = false) : slotB f = false := by
  unfold slotB
  rw [Bool.and_eq_false_iff]
  exact .inr (all_no (p := sblockB) hk h)
theorem sblk_no1 {y : BlockM} (h : 0 < y.phis.2.length) : sblockB y = false := by
  unfold sblockB
  rw [show (y.phis.2.length == 0) = false by rw [beq_eq_false_iff_ne]; omega]
  rfl
theorem sblk_no2 {y : BlockM} {j : Nat} (hj : j < y.insts.2.length) (h : (!(y.insts.2[j]!.op == 25 || y.insts.2[j]!.op == 26)) = false) : sblockB y = false := by
  unfold sblockB
  rw [all_no (p := fun x : InstM => !(x.op == 25 || x.op == 26)) hj h]
  simp
theorem sblk_yes {y : BlockM} (h : ¬ 0 < y.phis.2.length) (h2 : ∀ j, j < y.insts.2.length → (!(y.insts.2[j]!.op == 25 || y.insts.2[j]!.op == 26)) = true) : sblockB y = true := by
  unfold sblockB
  rw [all_yes (p := fun x : InstM => !(x.op == 25 || x.op == 26)) h2, show (y.phis.2.length == 0) = true by rw [beq_iff_eq]; omega]
  rfl

set_option maxRecDepth 100000 in
set_option maxHeartbeats 200000000 in
theorem refSlot_any (f : FuncM) (w : World) (hf : FuncAt w f) (hS : shapedB f = true) (hfew : FewP f) : Calls Tryd.prog 44 #[f.val] w fun e w' => e = .returned (.bool (slotB f)) ∧ Keeps w w' [] := by
  obtain ⟨a0, c0, e0, -, -, hc0⟩ := hf.vars.open_
  obtain ⟨a1, c1, e1, -, -, hc1⟩ := (show Row w 1 f.params.1 (f.params.2.map intCells) from hf.params).open_
  obtain ⟨a2, c2, e2, -, -, hc2⟩ := hf.blocks.open_
  have hval : f.val = .agg #[.slice a0 f.nv c0, .slice a1 f.np c1, .slice a2 f.nb c2] := by unfold FuncM.val FuncM.nv FuncM.np FuncM.nb; rw [e0, e1, e2]
  have h1 : #[f.vars.1, f.params.1, f.blocks.1] = #[.slice a0 f.nv c0, .slice a1 f.np c1, .slice a2 f.nb c2] := by unfold FuncM.nv FuncM.np FuncM.nb; rw [e0, e1, e2]
  have HF := kept hf
  have HC0 := kept hc0
  have HC1 := kept hc1
  have HC2 := kept hc2
  have HNV := kept (show f.vars.2.length = f.nv from rfl)
  have HNP := kept (show f.params.2.length = f.np from rfl)
  have HNB := kept (show f.blocks.2.length = f.nb from rfl)
  have HSh := kept (shaped_blocks hS)
  have hnbF := hfew.nb
  have HFB := kept hfew.block
  have CT := kept (fun W h => refTyped_any f W h hS hfew)
  rw [hval] at CT ⊢
  clear e0 e1 e2 hval h1 hf hc0 hc1 hc2 hfew hS
  generalize hRB : slotB f = RB at *
  have HRB := kept hRB
  clear hRB
  have hk0 : Keeps w (w.alloc (.cells #[.slice a0 f.nv c0, .slice a1 f.np c1, .slice a2 f.nb c2] 26)) [] := (Keeps.refl _ []).alloc _
  have bb0 := Blk.new w 26 #[.slice a0 f.nv c0, .slice a1 f.np c1, .slice a2 f.nb c2]
  have Bl := kept bb0
  have HK := kept hk0
  have l0 := Bl.out.cell 0
  have l1 := Bl.out.cell 1
  have l2 := Bl.out.cell 2
  simp at l0 l1 l2
  clear hk0 bb0
  go_enter Tryd.func44, Tryd.ntmps44
  go_wp2
  clear l0 l1 l2
  generalize (w.alloc (.cells #[.slice a0 f.nv c0, .slice a1 f.np c1, .slice a2 f.nb c2] 26)) = W0 at *
  have Bl_W0 := Bl
  have TW0 := HK
  clear HK
  have HK := kept (Keeps.refl W0 [])
  have l0 := Bl.out.cell 0
  have l1 := Bl.out.cell 1
  have l2 := Bl.out.cell 2
  simp at l0 l1 l2
  go_loopw [10] (fun i wr => ∃ k : Nat, k ≤ f.nb ∧ i = .int .i64 k ∧ Keeps W0 wr [] ∧ Hid (∀ j, j < k → sblockB f.blocks.2[j]! = true)) (fun i _ => f.nb - (intOf i).toNat)
  case atStart => exact ⟨0, Nat.zero_le _, rfl, HK.out, fun j hj => absurd hj (Nat.not_lt_zero _)⟩
  case round =>
    obtain ⟨k, hk, rfl, hr, A⟩ := hrel
    obtain ⟨wb, hwb⟩ : ∃ wb : World, wb = wr := ⟨_, rfl⟩
    subst hwb
    clear l0 l1 l2
    clear Bl HK
    have HK := kept hr
    have Bl := kept (Bl_W0.out.keep hr (by simp))
    clear hr
    have l0 := Bl.out.cell 0
    have l1 := Bl.out.cell 1
    have l2 := Bl.out.cell 2
    simp at l0 l1 l2
    by_cases hlt : k < f.nb
    · have hltz : (k : Int) < (f.nb : Int) := by omega
      obtain ⟨bb, off, rfl, hbl, hcell⟩ := HC2.out k (by rw [HNB.out]; exact hlt)
      have n0 := (TW0.out.and_then HK.out).cellOf (hcell 0 _ rfl)
      have n1 := (TW0.out.and_then HK.out).cellOf (hcell 1 _ rfl)
      have n2 := (TW0.out.and_then HK.out).cellOf (hcell 2 _ rfl)
      have n3 := (TW0.out.and_then HK.out).cellOf (hcell 3 _ rfl)
      have n4 := (TW0.out.and_then HK.out).cellOf (hcell 4 _ rfl)
      have n5 := (TW0.out.and_then HK.out).cellOf (hcell 5 _ rfl)
      have n6 := (TW0.out.and_then HK.out).cellOf (hcell 6 _ rfl)
      simp only [Nat.add_zero] at n0
      have hyb := (HF.out.keep (TW0.out.and_then HK.out)).block _ (bang_mem (l := f.blocks.2) (k := k) (by rw [HNB.out]; exact hlt))
      have hfb := (HFB.out _ (bang_mem (l := f.blocks.2) (k := k) (by rw [HNB.out]; exact hlt))).2
      have hsh := (HSh.out _ (bang_mem (l := f.blocks.2) (k := k) (by rw [HNB.out]; exact hlt))).2.1
      clear hcell
      generalize hy : f.blocks.2[k]! = y at *
      have HY := kept hy
      clear hy
      have HSI := kept hsh
      clear hsh
      obtain ⟨pa, pc, pe, -, -, -⟩ := hyb.phis.open_
      obtain ⟨qa, qc, qe, -, -, hqc⟩ := hyb.insts.open_
      have HYB := kept hyb
      rw [pe] at n1
      rw [qe] at n2
      have HQC := kept hqc
      clear hyb pe qe hqc
      generalize hPN : y.phis.2.length = pn at *
      generalize hQN : y.insts.2.length = qn at *
      have HPN := kept hPN
      have HQN := kept hQN
      clear hPN hQN
      generalize y.name = yn at *
      generalize y.kind = yk at *
      generalize y.var = yv at *
      generalize y.to0 = y0 at *
      generalize y.to1 = y1 at *
      clear l0 l1 l2
      have bmx := Blk.new wb 39 #[.string yn, .slice pa pn pc, .slice qa qn qc, .int .i64 yk, .int .i64 yv, .int .i64 y0, .int .i64 y1]
      have k3 : Keeps wb (wb.alloc (.cells #[.string yn, .slice pa pn pc, .slice qa qn qc, .int .i64 yk, .int .i64 yv, .int .i64 y0, .int .i64 y1] 39)) [] := (Keeps.refl wb []).alloc _
      have Blx := kept (Bl.out.keep k3 (by simp))
      have HKx := kept (HK.out.and_then k3)
      clear k3 Bl HK
      have Bl := Blx
      have HK := HKx
      have Bm := kept bmx
      clear bmx Blx HKx
      have l0 := Bl.out.cell 0
      have l1 := Bl.out.cell 1
      have l2 := Bl.out.cell 2
      have m0 := Bm.out.cell 0
      have m1 := Bm.out.cell 1
      have m2 := Bm.out.cell 2
      have m3 := Bm.out.cell 3
      have m4 := Bm.out.cell 4
      have m5 := Bm.out.cell 5
      have m6 := Bm.out.cell 6
      simp at l0 l1 l2 m0 m1 m2 m3 m4 m5 m6
      by_cases h0p : (0 : Int) < (pn : Int)
      · go_wp2
        go_ret
        exact ⟨ret_bool (by rw [← HRB.out]; exact (sblk_no hlt (by rw [HY.out]; exact (sblk_no1 (by rw [HPN.out]; omega)))).symm), (TW0.out.and_then HK.out)⟩
      go_wp2
      clear n0 n1 n2 n3 n4 n5 n6
      have KB : Hid (Keeps wb (wb.alloc (.cells #[.string yn, .slice pa pn pc, .slice qa qn qc, .int .i64 yk, .int .i64 yv, .int .i64 y0, .int .i64 y1] 39)) []) := (Keeps.refl wb []).alloc _
      clear l0 l1 l2 m0 m1 m2 m3 m4 m5 m6
      generalize wb.alloc (.cells #[.string yn, .slice pa pn pc, .slice qa qn qc, .int .i64 yk, .int .i64 yv, .int .i64 y0, .int .i64 y1] 39) = WB at *
      have Bl_WB := Bl
      have Bm_WB := Bm
      have TWB := HK
      clear HK
      have HK := kept (Keeps.refl WB [])
      have l0 := Bl.out.cell 0
      have l1 := Bl.out.cell 1
      have l2 := Bl.out.cell 2
      have m0 := Bm.out.cell 0
      have m1 := Bm.out.cell 1
      have m2 := Bm.out.cell 2
      have m3 := Bm.out.cell 3
      have m4 := Bm.out.cell 4
      have m5 := Bm.out.cell 5
      have m6 := Bm.out.cell 6
      simp at l0 l1 l2 m0 m1 m2 m3 m4 m5 m6
      go_loopw [21] (fun i wr => ∃ j : Nat, j ≤ qn ∧ i = .int .i64 j ∧ Keeps WB wr [] ∧ Hid (∀ q, q < j → (!(y.insts.2[q]!.op == 25 || y.insts.2[q]!.op == 26)) = true)) (fun i _ => qn - (intOf i).toNat)
      case atStart => exact ⟨0, Nat.zero_le _, rfl, Keeps.refl _ _, fun j hj => absurd hj (Nat.not_lt_zero _)⟩
      case round =>
        obtain ⟨j, hj, rfl, hr, A3⟩ := hrel
        obtain ⟨wd, hwd⟩ : ∃ wd : World, wd = wr := ⟨_, rfl⟩
        subst hwd
        clear l0 l1 l2 m0 m1 m2 m3 m4 m5 m6
        clear Bl Bm HK
        have HK := kept hr
        have Bl := kept (Bl_WB.out.keep hr (by simp))
        have Bm := kept (Bm_WB.out.keep hr (by simp))
        clear hr
        have l0 := Bl.out.cell 0
        have l1 := Bl.out.cell 1
        have l2 := Bl.out.cell 2
        have m0 := Bm.out.cell 0
        have m1 := Bm.out.cell 1
        have m2 := Bm.out.cell 2
        have m3 := Bm.out.cell 3
        have m4 := Bm.out.cell 4
        have m5 := Bm.out.cell 5
        have m6 := Bm.out.cell 6
        simp at l0 l1 l2 m0 m1 m2 m3 m4 m5 m6
        by_cases hltj : j < qn
        · have hltjz : (j : Int) < (qn : Int) := by omega
          obtain ⟨pb, po, rfl, hpb, hpcell⟩ := HQC.out j hltj
          have n0 := (KB.out.and_then HK.out).cellOf (hpcell 0 _ rfl)
          have n1 := (KB.out.and_then HK.out).cellOf (hpcell 1 _ rfl)
          have n2 := (KB.out.and_then HK.out).cellOf (hpcell 2 _ rfl)
          have n3 := (KB.out.and_then HK.out).cellOf (hpcell 3 _ rfl)
          simp only [Nat.add_zero] at n0
          have hpa := Row.keep (HYB.out.inst _ (bang_mem (l := y.insts.2) (k := j) (by rw [HQN.out]; exact hltj))) (KB.out.and_then HK.out)
          have hop := (inst_parts (HSI.out _ (bang_mem (l := y.insts.2) (k := j) (by rw [HQN.out]; exact hltj)))).1
          clear hpcell
          generalize hp : y.insts.2[j]! = p at *
          have HP := kept hp
          clear hp
          obtain ⟨ua, va1, e1, -⟩ := IntsAt.open_ hpa
          rw [e1] at n2
          clear e1 hpa
          generalize p.args.2.length = pna at *
          generalize hpo : p.op = pop at *
          have HPO := kept hpo
          clear hpo
          generalize p.dst = pdst at *
          generalize p.num = pnum at *
          clear l0 l1 l2 m0 m1 m2 m3 m4 m5 m6
          have bmx := Blk.new wd 42 #[.int .i64 pop, .int .i64 pdst, .slice ua pna va1, .int .i64 pnum]
          have k3 : Keeps wd (wd.alloc (.cells #[.int .i64 pop, .int .i64 pdst, .slice ua pna va1, .int .i64 pnum] 42)) [] := (Keeps.refl wd []).alloc _
          have Blx := kept (Bl.out.keep k3 (by simp))
          have Bmx := kept (Bm.out.keep k3 (by simp))
          have HKx := kept (HK.out.and_then k3)
          clear k3 Bl Bm HK
          have Bl := Blx
          have Bm := Bmx
          have HK := HKx
          have Bq := kept bmx
          clear bmx Blx Bmx HKx
          have l0 := Bl.out.cell 0
          have l1 := Bl.out.cell 1
          have l2 := Bl.out.cell 2
          have m0 := Bm.out.cell 0
          have m1 := Bm.out.cell 1
          have m2 := Bm.out.cell 2
          have m3 := Bm.out.cell 3
          have m4 := Bm.out.cell 4
          have m5 := Bm.out.cell 5
          have m6 := Bm.out.cell 6
          have q0 := Bq.out.cell 0
          have q1 := Bq.out.cell 1
          have q2 := Bq.out.cell 2
          have q3 := Bq.out.cell 3
          simp at l0 l1 l2 m0 m1 m2 m3 m4 m5 m6 q0 q1 q2 q3
          by_cases h25 : 25 ≤ pop
          · go_wp2
            go_ret
            exact ⟨ret_bool (by rw [← HRB.out]; exact (sblk_no hlt (by rw [HY.out]; exact (sblk_no2 (j := j) (by rw [HQN.out]; exact hltj) (by rw [HP.out, HPO.out]; rcases (show pop = 25 ∨ pop = 26 by omega) with rfl | rfl <;> rfl)))).symm), (TW0.out.and_then (TWB.out.and_then HK.out))⟩
          · have HOK := kept (show (!(pop == 25 || pop == 26)) = true by rw [show (pop == 25) = false by rw [beq_eq_false_iff_ne]; omega, show (pop == 26) = false by rw [beq_eq_false_iff_ne]; omega]; rfl)
            go_wp2
            go_roundw
            case rel =>
              refine ⟨j + 1, by omega, by go_num, HK.out, (show Hid _ from fun q hq => ?_)⟩
              by_cases e : q = j
              · subst e; rw [HP.out, HPO.out]; exact HOK.out
              · exact A3.out q (by omega)
            case measure => simp [intOf]; omega
        · have hltjz : ¬ (j : Int) < (qn : Int) := by omega
          obtain rfl : qn = j := by omega
          have HSB := kept (sblk_yes (y := y) (by rw [HPN.out]; omega) (fun j hj => A3.out j (by rw [← HQN.out]; exact hj)))
          go_wp2
          go_roundw
          case rel =>
            refine ⟨k + 1, by omega, by go_num, (TWB.out.and_then HK.out), (show Hid _ from fun q hq => ?_)⟩
            by_cases e : q = k
            · subst e; rw [HY.out]; exact HSB.out
            · exact A.out q (by omega)
          case measure => simp [intOf]; omega
    · have hltz : ¬ (k : Int) < (f.nb : Int) := by omega
      obtain rfl : f.nb = k := by omega
      have HSL := kept (show slotB f = typedB f by unfold slotB; rw [show (f.blocks.2.all fun b => (b.phis.2.length == 0) && b.insts.2.all fun x => !(x.op == 25 || x.op == 26)) = true from all_yes (p := sblockB) (fun j hj => A.out j (by rw [← HNB.out]; exact hj)), Bool.and_true])
      go_wp2_with (first | (go_at_call 13; refine (CT.out _ (HF.out.keep (TW0.out.and_then HK.out))).mono ?_; rintro e w6 ⟨rfl, k3⟩; clear l0 l1 l2; have Blx := kept (Bl.out.keep k3 (by simp)); have HKx := kept (HK.out.and_then k3); clear Bl HK; have Bl := Blx; have HK := HKx; clear Blx HKx; have l0 := Bl.out.cell 0; have l1 := Bl.out.cell 1; have l2 := Bl.out.cell 2; simp at l0 l1 l2; clear k3))
      go_ret
      exact ⟨ret_bool (by rw [← HRB.out, HSL.out]), (TW0.out.and_then HK.out)⟩

theorem shapedL_any (f : FuncM) (w : World) (ht : Tabs w) (hf : FuncAt w f) (hfew : FewP f) : Calls Tryd.prog 12 #[f.val] w fun e w' => e = .returned (.bool (shapedB f)) ∧ Keeps w w' [] := by
  have CS := kept (fun W h1 h2 => refShaped_any0 f W h1 h2 hfew)
  rw [shaped_eq] at CS
  have HT := kept ht
  obtain ⟨a0, c0, e0, -, -, hc0⟩ := hf.vars.open_
  obtain ⟨a1, c1, e1, -, -, hc1⟩ := (show Row w 1 f.params.1 (f.params.2.map intCells) from hf.params).open_
  obtain ⟨a2, c2, e2, -, -, hc2⟩ := hf.blocks.open_
  have hval : f.val = .agg #[.slice a0 f.nv c0, .slice a1 f.np c1, .slice a2 f.nb c2] := by unfold FuncM.val FuncM.nv FuncM.np FuncM.nb; rw [e0, e1, e2]
  have h1 : #[f.vars.1, f.params.1, f.blocks.1] = #[.slice a0 f.nv c0, .slice a1 f.np c1, .slice a2 f.nb c2] := by unfold FuncM.nv FuncM.np FuncM.nb; rw [e0, e1, e2]
  have HF := kept hf
  have HC0 := kept hc0
  have HC1 := kept hc1
  have HC2 := kept hc2
  have HNV := kept (show f.vars.2.length = f.nv from rfl)
  have HNP := kept (show f.params.2.length = f.np from rfl)
  have HNB := kept (show f.blocks.2.length = f.nb from rfl)
  rw [hval] at CS ⊢
  clear e0 e1 e2 hval h1 hf hc0 hc1 hc2 HC0 HC1 HC2 hfew ht
  have hk0 : Keeps w (w.alloc (.cells #[.slice a0 f.nv c0, .slice a1 f.np c1, .slice a2 f.nb c2] 26)) [] := (Keeps.refl _ []).alloc _
  have bb0 := Blk.new w 26 #[.slice a0 f.nv c0, .slice a1 f.np c1, .slice a2 f.nb c2]
  have Bl := kept bb0
  have HK := kept hk0
  have l0 := Bl.out.cell 0
  have l1 := Bl.out.cell 1
  have l2 := Bl.out.cell 2
  simp at l0 l1 l2
  clear hk0 bb0
  go_enter Tryd.func12, Tryd.ntmps12
  go_wp2_with (first | (go_at_call 34; refine (CS.out _ (HT.out.keep HK.out) (HF.out.keep HK.out)).mono ?_; rintro e w3 ⟨rfl, k3⟩; clear l0 l1 l2; have Blx := kept (Bl.out.keep k3 (by simp)); have HKx := kept (HK.out.and_then k3); clear Bl HK; have Bl := Blx; have HK := HKx; clear Blx HKx; have l0 := Bl.out.cell 0; have l1 := Bl.out.cell 1; have l2 := Bl.out.cell 2; simp at l0 l1 l2; clear k3))
  go_ret
  exact ⟨rfl, HK.out⟩

theorem slotL_any (f : FuncM) (w : World) (ht : Tabs w) (hf : FuncAt w f) (hfew : FewP f) : Calls Tryd.prog 16 #[f.val] w fun e w' => e = .returned (.bool (shapedB f && slotB f)) ∧ Keeps w w' [] := by
  have CS := kept (fun W h1 h2 => shapedL_any f W h1 h2 hfew)
  have CR := kept (fun W h1 h2 => refSlot_any f W h1 h2 hfew)
  have HT := kept ht
  obtain ⟨a0, c0, e0, -, -, hc0⟩ := hf.vars.open_
  obtain ⟨a1, c1, e1, -, -, hc1⟩ := (show Row w 1 f.params.1 (f.params.2.map intCells) from hf.params).open_
  obtain ⟨a2, c2, e2, -, -, hc2⟩ := hf.blocks.open_
  have hval : f.val = .agg #[.slice a0 f.nv c0, .slice a1 f.np c1, .slice a2 f.nb c2] := by unfold FuncM.val FuncM.nv FuncM.np FuncM.nb; rw [e0, e1, e2]
  have h1 : #[f.vars.1, f.params.1, f.blocks.1] = #[.slice a0 f.nv c0, .slice a1 f.np c1, .slice a2 f.nb c2] := by unfold FuncM.nv FuncM.np FuncM.nb; rw [e0, e1, e2]
  have HF := kept hf
  have HC0 := kept hc0
  have HC1 := kept hc1
  have HC2 := kept hc2
  have HNV := kept (show f.vars.2.length = f.nv from rfl)
  have HNP := kept (show f.params.2.length = f.np from rfl)
  have HNB := kept (show f.blocks.2.length = f.nb from rfl)
  rw [hval] at CS CR ⊢
  clear e0 e1 e2 hval h1 hf hc0 hc1 hc2 HC0 HC1 HC2 hfew ht
  have hk0 : Keeps w (w.alloc (.cells #[.slice a0 f.nv c0, .slice a1 f.np c1, .slice a2 f.nb c2] 26)) [] := (Keeps.refl _ []).alloc _
  have bb0 := Blk.new w 26 #[.slice a0 f.nv c0, .slice a1 f.np c1, .slice a2 f.nb c2]
  have Bl := kept bb0
  have HK := kept hk0
  have l0 := Bl.out.cell 0
  have l1 := Bl.out.cell 1
  have l2 := Bl.out.cell 2
  simp at l0 l1 l2
  clear hk0 bb0
  generalize slotB f = SB at *
  cases hs : shapedB f with
  | false =>
    rw [hs] at CS
    go_enter Tryd.func16, Tryd.ntmps16
    go_wp2_with (first | (go_at_call 12; refine (CS.out _ (HT.out.keep HK.out) (HF.out.keep HK.out)).mono ?_; rintro e w3 ⟨rfl, k3⟩; clear l0 l1 l2; have Blx := kept (Bl.out.keep k3 (by simp)); have HKx := kept (HK.out.and_then k3); clear Bl HK; have Bl := Blx; have HK := HKx; clear Blx HKx; have l0 := Bl.out.cell 0; have l1 := Bl.out.cell 1; have l2 := Bl.out.cell 2; simp at l0 l1 l2; clear k3))
    go_ret
    exact ⟨rfl, HK.out⟩
  | true =>
    rw [hs] at CS
    have CR2 := kept (fun W h1 => CR.out W h1 hs)
    go_enter Tryd.func16, Tryd.ntmps16
    go_wp2_with (first | (go_at_call 12; refine (CS.out _ (HT.out.keep HK.out) (HF.out.keep HK.out)).mono ?_; rintro e w3 ⟨rfl, k3⟩; clear l0 l1 l2; have Blx := kept (Bl.out.keep k3 (by simp)); have HKx := kept (HK.out.and_then k3); clear Bl HK; have Bl := Blx; have HK := HKx; clear Blx HKx; have l0 := Bl.out.cell 0; have l1 := Bl.out.cell 1; have l2 := Bl.out.cell 2; simp at l0 l1 l2; clear k3) | (go_at_call 44; refine (CR2.out _ (HF.out.keep HK.out)).mono ?_; rintro e w4 ⟨rfl, k3⟩; clear l0 l1 l2; have Blx := kept (Bl.out.keep k3 (by simp)); have HKx := kept (HK.out.and_then k3); clear Bl HK; have Bl := Blx; have HK := HKx; clear Blx HKx; have l0 := Bl.out.cell 0; have l1 := Bl.out.cell 1; have l2 := Bl.out.cell 2; simp at l0 l1 l2; clear k3))
    go_ret
    exact ⟨ret_bool (by simp), HK.out⟩

set_option maxRecDepth 100000 in
set_option maxHeartbeats 200000000 in
theorem walkTypingTells (f : FuncM) (w : World) (ht : Tabs w) (hf : FuncAt w f) : Calls Tryd.prog 3 #[f.val] w fun e w' => e = .returned (.bool true) ∧ Keeps w w' [] := by
  have CF := kept (fun W h => few_any f W h)
  have CL := kept (fun W h => lives6_any W h)
  have HT := kept ht
  obtain ⟨a0, c0, e0, -, -, hc0⟩ := hf.vars.open_
  obtain ⟨a1, c1, e1, -, -, hc1⟩ := (show Row w 1 f.params.1 (f.params.2.map intCells) from hf.params).open_
  obtain ⟨a2, c2, e2, -, -, hc2⟩ := hf.blocks.open_
  have hval : f.val = .agg #[.slice a0 f.nv c0, .slice a1 f.np c1, .slice a2 f.nb c2] := by unfold FuncM.val FuncM.nv FuncM.np FuncM.nb; rw [e0, e1, e2]
  have h1 : #[f.vars.1, f.params.1, f.blocks.1] = #[.slice a0 f.nv c0, .slice a1 f.np c1, .slice a2 f.nb c2] := by unfold FuncM.nv FuncM.np FuncM.nb; rw [e0, e1, e2]
  have HF := kept hf
  have HC0 := kept hc0
  have HC1 := kept hc1
  have HC2 := kept hc2
  have HNV := kept (show f.vars.2.length = f.nv from rfl)
  have HNP := kept (show f.params.2.length = f.np from rfl)
  have HNB := kept (show f.blocks.2.length = f.nb from rfl)
  have CSh := kept (fun W h1 h2 h3 => shapedL_any f W h1 h2 h3)
  have CRT := kept (fun W h1 h2 h3 => refTyped_any f W h1 h2 h3)
  have CSl := kept (fun W h1 h2 h3 => slotL_any f W h1 h2 h3)
  have CT := kept (fun W h1 h2 h3 => typedF_any f W h1 h2 h3)
  have CS := kept (fun W h1 h2 h3 => slotF_any f W h1 h2 h3)
  rw [hval] at CF CSh CRT CSl CT CS ⊢
  clear e0 e1 e2 hval h1 hf hc0 hc1 hc2 HC0 HC1 HC2 ht
  have hk0 : Keeps w (w.alloc (.cells #[.slice a0 f.nv c0, .slice a1 f.np c1, .slice a2 f.nb c2] 26)) [] := (Keeps.refl _ []).alloc _
  have bb0 := Blk.new w 26 #[.slice a0 f.nv c0, .slice a1 f.np c1, .slice a2 f.nb c2]
  have Bl := kept bb0
  have HK := kept hk0
  have l0 := Bl.out.cell 0
  have l1 := Bl.out.cell 1
  have l2 := Bl.out.cell 2
  simp at l0 l1 l2
  clear hk0 bb0
  go_enter Tryd.func3, Tryd.ntmps3
  go_wp2_with fail
  refine (CL.out _ (HT.out.keep HK.out)).mono ?_
  rintro e w3 ⟨rfl, k3⟩
  clear l0 l1 l2
  have Blx := kept (Bl.out.keep k3 (by simp))
  have HKx := kept (HK.out.and_then k3)
  clear Bl HK
  have Bl := Blx
  have HK := HKx
  clear Blx HKx
  have l0 := Bl.out.cell 0
  have l1 := Bl.out.cell 1
  have l2 := Bl.out.cell 2
  simp at l0 l1 l2
  clear k3
  go_wp2_with fail
  refine (CF.out _ (HF.out.keep HK.out)).mono ?_
  rintro e w4 ⟨b, rfl, hb, k3⟩
  have HBF := kept hb
  clear hb
  clear l0 l1 l2
  have Blx := kept (Bl.out.keep k3 (by simp))
  have HKx := kept (HK.out.and_then k3)
  clear Bl HK
  have Bl := Blx
  have HK := HKx
  clear Blx HKx
  have l0 := Bl.out.cell 0
  have l1 := Bl.out.cell 1
  have l2 := Bl.out.cell 2
  simp at l0 l1 l2
  clear k3
  cases b with
  | false =>
    go_wp2_with (go_at_call 10; refine (CL.out _ (HT.out.keep HK.out)).mono ?_; rintro e w5 ⟨rfl, k5⟩; have K5 := kept k5; clear k5)
    go_ret
    exact ⟨rfl, HK.out.and_then K5.out⟩
  | true =>
    have hQ := (HBF.out rfl).few
    have CSh2 := kept (fun W h1 h2 => CSh.out W h1 h2 hQ)
    have CRT2 := kept (fun W h1 h2 => CRT.out W h1 h2 hQ)
    have CSl2 := kept (fun W h1 h2 => CSl.out W h1 h2 hQ)
    have CT2 := kept (fun W h1 h2 => CT.out W h1 h2 hQ)
    have CS2 := kept (fun W h1 h2 => CS.out W h1 h2 hQ)
    clear CSh CRT CSl CT CS hQ HBF CL CF
    have HTE := kept (show typedE f = if (shapedB f && typedB f) = true then 0 else 3 from rfl)
    have HSE := kept (show slotE f = if (shapedB f && slotB f) = true then 0 else 3 from rfl)
    obtain ⟨AB, hAB⟩ : ∃ B, (shapedB f && typedB f) = B := ⟨_, rfl⟩
    obtain ⟨BB, hBB⟩ : ∃ B, (shapedB f && slotB f) = B := ⟨_, rfl⟩
    rw [hAB] at HTE
    rw [hBB] at HSE CSl2
    generalize typedE f = te at *
    generalize slotE f = se at *
    cases hs : shapedB f with
    | false =>
      rw [hs] at CSh2 hAB
      rw [Bool.false_and] at hAB
      subst hAB
      obtain rfl : te = 3 := by have := HTE.out; simpa using this
      go_wp2_with (go_at_call 12; refine (CSh2.out _ (HT.out.keep HK.out) (HF.out.keep HK.out)).mono ?_; rintro e w5 ⟨rfl, k3⟩; clear l0 l1 l2; have Blx := kept (Bl.out.keep k3 (by simp)); have HKx := kept (HK.out.and_then k3); clear Bl HK; have Bl := Blx; have HK := HKx; clear Blx HKx; have l0 := Bl.out.cell 0; have l1 := Bl.out.cell 1; have l2 := Bl.out.cell 2; simp at l0 l1 l2; clear k3)
      cases BB with
      | false =>
        obtain rfl : se = 3 := by have := HSE.out; simpa using this
        refine wp_region_held_drew (S := (fun w' => w'.cell? ⟨w.heap.size, 0, none⟩ = some (.slice a0 f.nv c0) ∧ w'.cell? ⟨w.heap.size, 1, none⟩ = some (.slice a1 f.np c1) ∧ w'.cell? ⟨w.heap.size, 2, none⟩ = some (.slice a2 f.nb c2))) (by kernel_rfl) ?rffahSs (fun hHeld => ?_)
        case rffahSs => exact ⟨l0, l1, l2⟩
        clear l0 l1 l2
        have Blx := kept (Bl.out.keep ((Keeps.refl _ []).drew) (by simp))
        have HKx := kept (HK.out.drew)
        clear Bl HK
        have Bl := Blx
        have HK := HKx
        clear Blx HKx
        generalize World.drew _ = X0 at *
        have l0 := Bl.out.cell 0
        have l1 := Bl.out.cell 1
        have l2 := Bl.out.cell 2
        simp at l0 l1 l2
        refine wpAnyH_take (i := 0) (oi := { dst := some 20, op := Op.load 26 (Operand.tmp 1), type := 26, pos := "law.go:30", after := #[], guard := none }) (v := ?rffav0) rfl (by kernel_rfl) (by kernel_rfl) (by kernel_rfl) (fun _ _ _ h => h) (Or.inl ⟨by rfl, ?rffay0⟩) hHeld ?rffar0
        case rffay0 => (intro w hSw; (try dsimp only at hSw); go_simp; (try with_reducible rfl))
        try simp only [Act.put, List.setIfInBounds_toArray, List.set_cons_zero, List.set_cons_succ]
        refine wpAnyH_take (i := 3) (oi := { dst := some 23, op := Op.move (Operand.tmp 4), type := 4, pos := "law.go:30", after := #[], guard := none }) (v := ?rffav3) rfl (by kernel_rfl) (by kernel_rfl) (by kernel_rfl) (fun _ _ _ h => h) (Or.inl ⟨by rfl, ?rffay3⟩) hHeld ?rffar3
        case rffay3 => (intro w hSw; (try dsimp only at hSw); go_simp; (try with_reducible rfl))
        try simp only [Act.put, List.setIfInBounds_toArray, List.set_cons_zero, List.set_cons_succ]
        refine wpAnyH_ready (rs := [1]) (by kernel_rfl) (by simp) ?_
        refine AllReadyH.cons (o := { dst := some 21, op := Op.call { callee := Callee.value (Operand.func 14), args := #[Operand.tmp 20], argTypes := #[26] }, type := 29, pos := "law.go:30", after := #[{ on := 0, ground := Ground.data }], guard := none }) rfl (fun K hK => ?_) AllReadyH.nil
        go_simp
        (with_reducible refine (CT2.out _ (HT.out.keep HK.out) (HF.out.keep HK.out)).mono ?_)
        rintro e wx ⟨rfl, k3⟩
        show K _ _
        clear hHeld
        clear l0 l1 l2
        have Blx := kept (Bl.out.keep k3 (by simp))
        have HKx := kept (HK.out.and_then k3)
        clear Bl HK
        have Bl := Blx
        have HK := HKx
        clear Blx HKx
        have l0 := Bl.out.cell 0
        have l1 := Bl.out.cell 1
        have l2 := Bl.out.cell 2
        simp at l0 l1 l2
        clear k3
        refine hK.out _ _ ?rffahS1 (fun hHeld => ?_)
        case rffahS1 => exact ⟨l0, l1, l2⟩
        clear hK K
        try simp only [Act.put, List.setIfInBounds_toArray, List.set_cons_zero, List.set_cons_succ]
        refine wpAnyH_take (i := 2) (oi := { dst := some 22, op := Op.binOp BinOp.eql 29 (Operand.tmp 21) (Operand.const (Value.int IntKind.i64 0)) 29, type := 4, pos := "law.go:30", after := #[{ on := 1, ground := Ground.data }], guard := none }) (v := ?rffav2) rfl (by kernel_rfl) (by kernel_rfl) (by kernel_rfl) (fun _ _ _ h => h) (Or.inl ⟨by rfl, ?rffay2⟩) hHeld ?rffar2
        case rffay2 => (intro w hSw; (try dsimp only at hSw); go_simp; (try with_reducible rfl))
        try simp only [Act.put, List.setIfInBounds_toArray, List.set_cons_zero, List.set_cons_succ]
        refine wpAnyH_take (i := 4) (oi := { dst := some 24, op := Op.binOp BinOp.eql 4 (Operand.tmp 22) (Operand.tmp 23) 4, type := 4, pos := "law.go:30", after := #[{ on := 2, ground := Ground.data }, { on := 3, ground := Ground.data }], guard := none }) (v := ?rffav4) rfl (by kernel_rfl) (by kernel_rfl) (by kernel_rfl) (fun _ _ _ h => h) (Or.inl ⟨by rfl, ?rffay4⟩) hHeld ?rffar4
        case rffay4 => (intro w hSw; (try dsimp only at hSw); go_simp; (try with_reducible rfl))
        try simp only [Act.put, List.setIfInBounds_toArray, List.set_cons_zero, List.set_cons_succ]
        refine wpAnyH_take (i := 5) (oi := { dst := some 25, op := Op.move (Operand.tmp 24), type := 4, pos := "law.go:30", after := #[{ on := 4, ground := Ground.data }, { on := 1, ground := Ground.chain }], guard := none }) (v := ?rffav5) rfl (by kernel_rfl) (by kernel_rfl) (by kernel_rfl) (fun _ _ _ h => h) (Or.inl ⟨by rfl, ?rffay5⟩) hHeld ?rffar5
        case rffay5 => (intro w hSw; (try dsimp only at hSw); go_simp; (try with_reducible rfl))
        try simp only [Act.put, List.setIfInBounds_toArray, List.set_cons_zero, List.set_cons_succ]
        refine wpAnyH_take (i := 6) (oi := { dst := some 26, op := Op.load 26 (Operand.tmp 1), type := 26, pos := "law.go:30", after := #[{ on := 5, ground := Ground.guard }], guard := some (5, true) }) (v := ?rffav6) rfl (by kernel_rfl) (by kernel_rfl) (by kernel_rfl) (fun _ _ _ h => h) (Or.inl ⟨by rfl, ?rffay6⟩) hHeld ?rffar6
        case rffay6 => (intro w hSw; (try dsimp only at hSw); go_simp; (try with_reducible rfl))
        try simp only [Act.put, List.setIfInBounds_toArray, List.set_cons_zero, List.set_cons_succ]
        refine wpAnyH_take (i := 9) (oi := { dst := some 29, op := Op.load 26 (Operand.tmp 1), type := 26, pos := "law.go:30", after := #[{ on := 5, ground := Ground.guard }], guard := some (5, true) }) (v := ?rffav9) rfl (by kernel_rfl) (by kernel_rfl) (by kernel_rfl) (fun _ _ _ h => h) (Or.inl ⟨by rfl, ?rffay9⟩) hHeld ?rffar9
        case rffay9 => (intro w hSw; (try dsimp only at hSw); go_simp; (try with_reducible rfl))
        try simp only [Act.put, List.setIfInBounds_toArray, List.set_cons_zero, List.set_cons_succ]
        refine wpAnyH_ready (rs := [7]) (by kernel_rfl) (by simp) ?_
        refine AllReadyH.cons (o := { dst := some 27, op := Op.call { callee := Callee.value (Operand.func 15), args := #[Operand.tmp 26], argTypes := #[26] }, type := 29, pos := "law.go:30", after := #[{ on := 6, ground := Ground.data }, { on := 5, ground := Ground.chain }, { on := 5, ground := Ground.guard }], guard := some (5, true) }) rfl (fun K hK => ?_) AllReadyH.nil
        go_simp
        (with_reducible refine (CS2.out _ (HT.out.keep HK.out) (HF.out.keep HK.out)).mono ?_)
        rintro e wx ⟨rfl, k3⟩
        show K _ _
        clear hHeld
        clear l0 l1 l2
        have Blx := kept (Bl.out.keep k3 (by simp))
        have HKx := kept (HK.out.and_then k3)
        clear Bl HK
        have Bl := Blx
        have HK := HKx
        clear Blx HKx
        have l0 := Bl.out.cell 0
        have l1 := Bl.out.cell 1
        have l2 := Bl.out.cell 2
        simp at l0 l1 l2
        clear k3
        refine hK.out _ _ ?rffahS7 (fun hHeld => ?_)
        case rffahS7 => exact ⟨l0, l1, l2⟩
        clear hK K
        try simp only [Act.put, List.setIfInBounds_toArray, List.set_cons_zero, List.set_cons_succ]
        refine wpAnyH_take (i := 8) (oi := { dst := some 28, op := Op.binOp BinOp.eql 29 (Operand.tmp 27) (Operand.const (Value.int IntKind.i64 0)) 29, type := 4, pos := "law.go:30", after := #[{ on := 7, ground := Ground.data }, { on := 5, ground := Ground.guard }], guard := some (5, true) }) (v := ?rffav8) rfl (by kernel_rfl) (by kernel_rfl) (by kernel_rfl) (fun _ _ _ h => h) (Or.inl ⟨by rfl, ?rffay8⟩) hHeld ?rffar8
        case rffay8 => (intro w hSw; (try dsimp only at hSw); go_simp; (try with_reducible rfl))
        try simp only [Act.put, List.setIfInBounds_toArray, List.set_cons_zero, List.set_cons_succ]
        refine wpAnyH_ready (rs := [10]) (by kernel_rfl) (by simp) ?_
        refine AllReadyH.cons (o := { dst := some 30, op := Op.call { callee := Callee.value (Operand.func 16), args := #[Operand.tmp 29], argTypes := #[26] }, type := 4, pos := "law.go:30", after := #[{ on := 9, ground := Ground.data }, { on := 7, ground := Ground.chain }, { on := 5, ground := Ground.guard }], guard := some (5, true) }) rfl (fun K hK => ?_) AllReadyH.nil
        go_simp
        (with_reducible refine (CSl2.out _ (HT.out.keep HK.out) (HF.out.keep HK.out)).mono ?_)
        rintro e wx ⟨rfl, k3⟩
        show K _ _
        clear hHeld
        clear l0 l1 l2
        have Blx := kept (Bl.out.keep k3 (by simp))
        have HKx := kept (HK.out.and_then k3)
        clear Bl HK
        have Bl := Blx
        have HK := HKx
        clear Blx HKx
        have l0 := Bl.out.cell 0
        have l1 := Bl.out.cell 1
        have l2 := Bl.out.cell 2
        simp at l0 l1 l2
        clear k3
        refine hK.out _ _ ?rffahS10 (fun hHeld => ?_)
        case rffahS10 => exact ⟨l0, l1, l2⟩
        clear hK K
        try simp only [Act.put, List.setIfInBounds_toArray, List.set_cons_zero, List.set_cons_succ]
        refine wpAnyH_take (i := 11) (oi := { dst := some 31, op := Op.binOp BinOp.eql 4 (Operand.tmp 28) (Operand.tmp 30) 4, type := 4, pos := "law.go:30", after := #[{ on := 8, ground := Ground.data }, { on := 10, ground := Ground.data }, { on := 5, ground := Ground.guard }], guard := some (5, true) }) (v := ?rffav11) rfl (by kernel_rfl) (by kernel_rfl) (by kernel_rfl) (fun _ _ _ h => h) (Or.inl ⟨by rfl, ?rffay11⟩) hHeld ?rffar11
        case rffay11 => (intro w hSw; (try dsimp only at hSw); go_simp; (try with_reducible rfl))
        try simp only [Act.put, List.setIfInBounds_toArray, List.set_cons_zero, List.set_cons_succ]
        refine wpAnyH_take (i := 12) (oi := { dst := some 32, op := Op.pick (Operand.tmp 25) (Operand.tmp 31) (Operand.const (Value.bool false)), type := 4, pos := "law.go:30", after := #[{ on := 5, ground := Ground.data }, { on := 11, ground := Ground.data }], guard := none }) (v := ?rffav12) rfl (by kernel_rfl) (by kernel_rfl) (by kernel_rfl) (fun _ _ _ h => h) (Or.inl ⟨by rfl, ?rffay12⟩) hHeld ?rffar12
        case rffay12 => (intro w hSw; (try dsimp only at hSw); go_simp; (try with_reducible rfl))
        try simp only [Act.put, List.setIfInBounds_toArray, List.set_cons_zero, List.set_cons_succ]
        refine wpAnyH_take (i := 13) (oi := { dst := some 33, op := Op.move (Operand.tmp 32), type := 4, pos := "law.go:30", after := #[{ on := 12, ground := Ground.data }, { on := 10, ground := Ground.chain }], guard := none }) (v := ?rffav13) rfl (by kernel_rfl) (by kernel_rfl) (by kernel_rfl) (fun _ _ _ h => h) (Or.inl ⟨by rfl, ?rffay13⟩) hHeld ?rffar13
        case rffay13 => (intro w hSw; (try dsimp only at hSw); go_simp; (try with_reducible rfl))
        try simp only [Act.put, List.setIfInBounds_toArray, List.set_cons_zero, List.set_cons_succ]
        refine wpAnyH_take (i := 14) (oi := { dst := some 34, op := Op.move (Operand.tmp 4), type := 4, pos := "law.go:30", after := #[{ on := 13, ground := Ground.guard }], guard := some (13, true) }) (v := ?rffav14) rfl (by kernel_rfl) (by kernel_rfl) (by kernel_rfl) (fun _ _ _ h => h) (Or.inl ⟨by rfl, ?rffay14⟩) hHeld ?rffar14
        case rffay14 => (intro w hSw; (try dsimp only at hSw); go_simp; (try with_reducible rfl))
        try simp only [Act.put, List.setIfInBounds_toArray, List.set_cons_zero, List.set_cons_succ]
        refine wpAnyH_take (i := 15) (oi := { dst := some 35, op := Op.move (Operand.tmp 34), type := 4, pos := "law.go:30", after := #[{ on := 14, ground := Ground.data }, { on := 13, ground := Ground.chain }, { on := 13, ground := Ground.guard }], guard := some (13, true) }) (v := ?rffav15) rfl (by kernel_rfl) (by kernel_rfl) (by kernel_rfl) (fun _ _ _ h => h) (Or.inl ⟨by rfl, ?rffay15⟩) hHeld ?rffar15
        case rffay15 => (intro w hSw; (try dsimp only at hSw); go_simp; (try with_reducible rfl))
        try simp only [Act.put, List.setIfInBounds_toArray, List.set_cons_zero, List.set_cons_succ]
        refine wpAnyH_take (i := 16) (oi := { dst := some 36, op := Op.load 26 (Operand.tmp 1), type := 26, pos := "law.go:30", after := #[{ on := 15, ground := Ground.guard }], guard := some (15, false) }) (v := ?rffav16) rfl (by kernel_rfl) (by kernel_rfl) (by kernel_rfl) (fun _ _ _ h => h) (Or.inl ⟨by rfl, ?rffay16⟩) hHeld ?rffar16
        case rffay16 => (intro w hSw; (try dsimp only at hSw); go_simp; (try with_reducible rfl))
        try simp only [Act.put, List.setIfInBounds_toArray, List.set_cons_zero, List.set_cons_succ]
        refine wpAnyH_ready (rs := [17]) (by kernel_rfl) (by simp) ?_
        refine AllReadyH.cons (o := { dst := some 37, op := Op.call { callee := Callee.value (Operand.func 14), args := #[Operand.tmp 36], argTypes := #[26] }, type := 29, pos := "law.go:30", after := #[{ on := 16, ground := Ground.data }, { on := 15, ground := Ground.chain }, { on := 15, ground := Ground.guard }], guard := some (15, false) }) rfl (fun K hK => ?_) AllReadyH.nil
        go_simp
        (with_reducible refine (CT2.out _ (HT.out.keep HK.out) (HF.out.keep HK.out)).mono ?_)
        rintro e wx ⟨rfl, k3⟩
        show K _ _
        clear hHeld
        clear l0 l1 l2
        have Blx := kept (Bl.out.keep k3 (by simp))
        have HKx := kept (HK.out.and_then k3)
        clear Bl HK
        have Bl := Blx
        have HK := HKx
        clear Blx HKx
        have l0 := Bl.out.cell 0
        have l1 := Bl.out.cell 1
        have l2 := Bl.out.cell 2
        simp at l0 l1 l2
        clear k3
        refine hK.out _ _ ?rffahS17 (fun hHeld => ?_)
        case rffahS17 => exact ⟨l0, l1, l2⟩
        clear hK K
        try simp only [Act.put, List.setIfInBounds_toArray, List.set_cons_zero, List.set_cons_succ]
        refine wpAnyH_take (i := 18) (oi := { dst := some 38, op := Op.binOp BinOp.eql 29 (Operand.tmp 37) (Operand.const (Value.int IntKind.i64 3)) 29, type := 4, pos := "law.go:30", after := #[{ on := 17, ground := Ground.data }, { on := 15, ground := Ground.guard }], guard := some (15, false) }) (v := ?rffav18) rfl (by kernel_rfl) (by kernel_rfl) (by kernel_rfl) (fun _ _ _ h => h) (Or.inl ⟨by rfl, ?rffay18⟩) hHeld ?rffar18
        case rffay18 => (intro w hSw; (try dsimp only at hSw); go_simp; (try with_reducible rfl))
        try simp only [Act.put, List.setIfInBounds_toArray, List.set_cons_zero, List.set_cons_succ]
        refine wpAnyH_take (i := 19) (oi := { dst := some 39, op := Op.pick (Operand.tmp 35) (Operand.const (Value.bool true)) (Operand.tmp 38), type := 4, pos := "law.go:30", after := #[{ on := 15, ground := Ground.data }, { on := 18, ground := Ground.data }, { on := 13, ground := Ground.guard }], guard := some (13, true) }) (v := ?rffav19) rfl (by kernel_rfl) (by kernel_rfl) (by kernel_rfl) (fun _ _ _ h => h) (Or.inl ⟨by rfl, ?rffay19⟩) hHeld ?rffar19
        case rffay19 => (intro w hSw; (try dsimp only at hSw); go_simp; (try with_reducible rfl))
        try simp only [Act.put, List.setIfInBounds_toArray, List.set_cons_zero, List.set_cons_succ]
        refine wpAnyH_take (i := 20) (oi := { dst := some 40, op := Op.pick (Operand.tmp 33) (Operand.tmp 39) (Operand.const (Value.bool false)), type := 4, pos := "law.go:30", after := #[{ on := 13, ground := Ground.data }, { on := 19, ground := Ground.data }], guard := none }) (v := ?rffav20) rfl (by kernel_rfl) (by kernel_rfl) (by kernel_rfl) (fun _ _ _ h => h) (Or.inl ⟨by rfl, ?rffay20⟩) hHeld ?rffar20
        case rffay20 => (intro w hSw; (try dsimp only at hSw); go_simp; (try with_reducible rfl))
        try simp only [Act.put, List.setIfInBounds_toArray, List.set_cons_zero, List.set_cons_succ]
        refine wpAnyH_take (i := 21) (oi := { dst := some 41, op := Op.move (Operand.tmp 40), type := 4, pos := "law.go:30", after := #[{ on := 20, ground := Ground.data }, { on := 17, ground := Ground.chain }], guard := none }) (v := ?rffav21) rfl (by kernel_rfl) (by kernel_rfl) (by kernel_rfl) (fun _ _ _ h => h) (Or.inl ⟨by rfl, ?rffay21⟩) hHeld ?rffar21
        case rffay21 => (intro w hSw; (try dsimp only at hSw); go_simp; (try with_reducible rfl))
        try simp only [Act.put, List.setIfInBounds_toArray, List.set_cons_zero, List.set_cons_succ]
        refine wpAnyH_take (i := 22) (oi := { dst := some 42, op := Op.load 26 (Operand.tmp 1), type := 26, pos := "law.go:30", after := #[{ on := 21, ground := Ground.guard }], guard := some (21, true) }) (v := ?rffav22) rfl (by kernel_rfl) (by kernel_rfl) (by kernel_rfl) (fun _ _ _ h => h) (Or.inl ⟨by rfl, ?rffay22⟩) hHeld ?rffar22
        case rffay22 => (intro w hSw; (try dsimp only at hSw); go_simp; (try with_reducible rfl))
        try simp only [Act.put, List.setIfInBounds_toArray, List.set_cons_zero, List.set_cons_succ]
        refine wpAnyH_ready (rs := [23]) (by kernel_rfl) (by simp) ?_
        refine AllReadyH.cons (o := { dst := some 43, op := Op.call { callee := Callee.value (Operand.func 16), args := #[Operand.tmp 42], argTypes := #[26] }, type := 4, pos := "law.go:30", after := #[{ on := 22, ground := Ground.data }, { on := 21, ground := Ground.chain }, { on := 21, ground := Ground.guard }], guard := some (21, true) }) rfl (fun K hK => ?_) AllReadyH.nil
        go_simp
        (with_reducible refine (CSl2.out _ (HT.out.keep HK.out) (HF.out.keep HK.out)).mono ?_)
        rintro e wx ⟨rfl, k3⟩
        show K _ _
        clear hHeld
        clear l0 l1 l2
        have Blx := kept (Bl.out.keep k3 (by simp))
        have HKx := kept (HK.out.and_then k3)
        clear Bl HK
        have Bl := Blx
        have HK := HKx
        clear Blx HKx
        have l0 := Bl.out.cell 0
        have l1 := Bl.out.cell 1
        have l2 := Bl.out.cell 2
        simp at l0 l1 l2
        clear k3
        refine hK.out _ _ ?rffahS23 (fun hHeld => ?_)
        case rffahS23 => exact ⟨l0, l1, l2⟩
        clear hK K
        try simp only [Act.put, List.setIfInBounds_toArray, List.set_cons_zero, List.set_cons_succ]
        refine wpAnyH_take (i := 24) (oi := { dst := some 44, op := Op.move (Operand.tmp 43), type := 4, pos := "law.go:30", after := #[{ on := 23, ground := Ground.data }, { on := 23, ground := Ground.chain }, { on := 21, ground := Ground.guard }], guard := some (21, true) }) (v := ?rffav24) rfl (by kernel_rfl) (by kernel_rfl) (by kernel_rfl) (fun _ _ _ h => h) (Or.inl ⟨by rfl, ?rffay24⟩) hHeld ?rffar24
        case rffay24 => (intro w hSw; (try dsimp only at hSw); go_simp; (try with_reducible rfl))
        try simp only [Act.put, List.setIfInBounds_toArray, List.set_cons_zero, List.set_cons_succ]
        refine wpAnyH_take (i := 25) (oi := { dst := some 45, op := Op.load 26 (Operand.tmp 1), type := 26, pos := "law.go:30", after := #[{ on := 24, ground := Ground.guard }], guard := some (24, false) }) (v := ?rffav25) rfl (by kernel_rfl) (by kernel_rfl) (by kernel_rfl) (fun _ _ _ h => h) (Or.inl ⟨by rfl, ?rffay25⟩) hHeld ?rffar25
        case rffay25 => (intro w hSw; (try dsimp only at hSw); go_simp; (try with_reducible rfl))
        try simp only [Act.put, List.setIfInBounds_toArray, List.set_cons_zero, List.set_cons_succ]
        refine wpAnyH_ready (rs := [26]) (by kernel_rfl) (by simp) ?_
        refine AllReadyH.cons (o := { dst := some 46, op := Op.call { callee := Callee.value (Operand.func 15), args := #[Operand.tmp 45], argTypes := #[26] }, type := 29, pos := "law.go:30", after := #[{ on := 25, ground := Ground.data }, { on := 24, ground := Ground.chain }, { on := 24, ground := Ground.guard }], guard := some (24, false) }) rfl (fun K hK => ?_) AllReadyH.nil
        go_simp
        (with_reducible refine (CS2.out _ (HT.out.keep HK.out) (HF.out.keep HK.out)).mono ?_)
        rintro e wx ⟨rfl, k3⟩
        show K _ _
        clear hHeld
        clear l0 l1 l2
        have Blx := kept (Bl.out.keep k3 (by simp))
        have HKx := kept (HK.out.and_then k3)
        clear Bl HK
        have Bl := Blx
        have HK := HKx
        clear Blx HKx
        have l0 := Bl.out.cell 0
        have l1 := Bl.out.cell 1
        have l2 := Bl.out.cell 2
        simp at l0 l1 l2
        clear k3
        refine hK.out _ _ ?rffahS26 (fun hHeld => ?_)
        case rffahS26 => exact ⟨l0, l1, l2⟩
        clear hK K
        try simp only [Act.put, List.setIfInBounds_toArray, List.set_cons_zero, List.set_cons_succ]
        refine wpAnyH_take (i := 27) (oi := { dst := some 47, op := Op.binOp BinOp.eql 29 (Operand.tmp 46) (Operand.const (Value.int IntKind.i64 3)) 29, type := 4, pos := "law.go:30", after := #[{ on := 26, ground := Ground.data }, { on := 24, ground := Ground.guard }], guard := some (24, false) }) (v := ?rffav27) rfl (by kernel_rfl) (by kernel_rfl) (by kernel_rfl) (fun _ _ _ h => h) (Or.inl ⟨by rfl, ?rffay27⟩) hHeld ?rffar27
        case rffay27 => (intro w hSw; (try dsimp only at hSw); go_simp; (try with_reducible rfl))
        try simp only [Act.put, List.setIfInBounds_toArray, List.set_cons_zero, List.set_cons_succ]
        refine wpAnyH_take (i := 28) (oi := { dst := some 48, op := Op.pick (Operand.tmp 44) (Operand.const (Value.bool true)) (Operand.tmp 47), type := 4, pos := "law.go:30", after := #[{ on := 24, ground := Ground.data }, { on := 27, ground := Ground.data }, { on := 21, ground := Ground.guard }], guard := some (21, true) }) (v := ?rffav28) rfl (by kernel_rfl) (by kernel_rfl) (by kernel_rfl) (fun _ _ _ h => h) (Or.inl ⟨by rfl, ?rffay28⟩) hHeld ?rffar28
        case rffay28 => (intro w hSw; (try dsimp only at hSw); go_simp; (try with_reducible rfl))
        try simp only [Act.put, List.setIfInBounds_toArray, List.set_cons_zero, List.set_cons_succ]
        refine wpAnyH_take (i := 29) (oi := { dst := some 49, op := Op.pick (Operand.tmp 41) (Operand.tmp 48) (Operand.const (Value.bool false)), type := 4, pos := "law.go:30", after := #[{ on := 21, ground := Ground.data }, { on := 28, ground := Ground.data }], guard := none }) (v := ?rffav29) rfl (by kernel_rfl) (by kernel_rfl) (by kernel_rfl) (fun _ _ _ h => h) (Or.inl ⟨by rfl, ?rffay29⟩) hHeld ?rffar29
        case rffay29 => (intro w hSw; (try dsimp only at hSw); go_simp; (try with_reducible rfl))
        try simp only [Act.put, List.setIfInBounds_toArray, List.set_cons_zero, List.set_cons_succ]
        refine wpAnyH_take (i := 30) (oi := { dst := some 2, op := Op.assign (Operand.tmp 49), type := 4, pos := "law.go:30", after := #[{ on := 29, ground := Ground.data }, { on := 26, ground := Ground.chain }, { on := 0, ground := Ground.phase }, { on := 1, ground := Ground.phase }, { on := 2, ground := Ground.phase }, { on := 3, ground := Ground.phase }, { on := 4, ground := Ground.phase }, { on := 5, ground := Ground.phase }, { on := 6, ground := Ground.phase }, { on := 7, ground := Ground.phase }, { on := 8, ground := Ground.phase }, { on := 9, ground := Ground.phase }, { on := 10, ground := Ground.phase }, { on := 11, ground := Ground.phase }, { on := 12, ground := Ground.phase }, { on := 13, ground := Ground.phase }, { on := 14, ground := Ground.phase }, { on := 15, ground := Ground.phase }, { on := 16, ground := Ground.phase }, { on := 17, ground := Ground.phase }, { on := 18, ground := Ground.phase }, { on := 19, ground := Ground.phase }, { on := 20, ground := Ground.phase }, { on := 21, ground := Ground.phase }, { on := 22, ground := Ground.phase }, { on := 23, ground := Ground.phase }, { on := 24, ground := Ground.phase }, { on := 25, ground := Ground.phase }, { on := 26, ground := Ground.phase }, { on := 27, ground := Ground.phase }, { on := 28, ground := Ground.phase }, { on := 29, ground := Ground.phase }], guard := none }) (v := ?rffav30) rfl (by kernel_rfl) (by kernel_rfl) (by kernel_rfl) (fun _ _ _ h => h) (Or.inl ⟨by rfl, ?rffay30⟩) hHeld ?rffar30
        case rffay30 => (intro w hSw; (try dsimp only at hSw); go_simp; (try with_reducible rfl))
        try simp only [Act.put, List.setIfInBounds_toArray, List.set_cons_zero, List.set_cons_succ]
        refine wpAnyH_done (by kernel_rfl) ?_ _
        clear hHeld
        go_wp2
        go_ret
        exact ⟨rfl, HK.out⟩
      | true =>
        obtain rfl : se = 0 := by have := HSE.out; simpa using this
        refine wp_region_held_drew (S := (fun w' => w'.cell? ⟨w.heap.size, 0, none⟩ = some (.slice a0 f.nv c0) ∧ w'.cell? ⟨w.heap.size, 1, none⟩ = some (.slice a1 f.np c1) ∧ w'.cell? ⟨w.heap.size, 2, none⟩ = some (.slice a2 f.nb c2))) (by kernel_rfl) ?rftahSs (fun hHeld => ?_)
        case rftahSs => exact ⟨l0, l1, l2⟩
        clear l0 l1 l2
        have Blx := kept (Bl.out.keep ((Keeps.refl _ []).drew) (by simp))
        have HKx := kept (HK.out.drew)
        clear Bl HK
        have Bl := Blx
        have HK := HKx
        clear Blx HKx
        generalize World.drew _ = X0 at *
        have l0 := Bl.out.cell 0
        have l1 := Bl.out.cell 1
        have l2 := Bl.out.cell 2
        simp at l0 l1 l2
        refine wpAnyH_take (i := 0) (oi := { dst := some 20, op := Op.load 26 (Operand.tmp 1), type := 26, pos := "law.go:30", after := #[], guard := none }) (v := ?rftav0) rfl (by kernel_rfl) (by kernel_rfl) (by kernel_rfl) (fun _ _ _ h => h) (Or.inl ⟨by rfl, ?rftay0⟩) hHeld ?rftar0
        case rftay0 => (intro w hSw; (try dsimp only at hSw); go_simp; (try with_reducible rfl))
        try simp only [Act.put, List.setIfInBounds_toArray, List.set_cons_zero, List.set_cons_succ]
        refine wpAnyH_take (i := 3) (oi := { dst := some 23, op := Op.move (Operand.tmp 4), type := 4, pos := "law.go:30", after := #[], guard := none }) (v := ?rftav3) rfl (by kernel_rfl) (by kernel_rfl) (by kernel_rfl) (fun _ _ _ h => h) (Or.inl ⟨by rfl, ?rftay3⟩) hHeld ?rftar3
        case rftay3 => (intro w hSw; (try dsimp only at hSw); go_simp; (try with_reducible rfl))
        try simp only [Act.put, List.setIfInBounds_toArray, List.set_cons_zero, List.set_cons_succ]
        refine wpAnyH_ready (rs := [1]) (by kernel_rfl) (by simp) ?_
        refine AllReadyH.cons (o := { dst := some 21, op := Op.call { callee := Callee.value (Operand.func 14), args := #[Operand.tmp 20], argTypes := #[26] }, type := 29, pos := "law.go:30", after := #[{ on := 0, ground := Ground.data }], guard := none }) rfl (fun K hK => ?_) AllReadyH.nil
        go_simp
        (with_reducible refine (CT2.out _ (HT.out.keep HK.out) (HF.out.keep HK.out)).mono ?_)
        rintro e wx ⟨rfl, k3⟩
        show K _ _
        clear hHeld
        clear l0 l1 l2
        have Blx := kept (Bl.out.keep k3 (by simp))
        have HKx := kept (HK.out.and_then k3)
        clear Bl HK
        have Bl := Blx
        have HK := HKx
        clear Blx HKx
        have l0 := Bl.out.cell 0
        have l1 := Bl.out.cell 1
        have l2 := Bl.out.cell 2
        simp at l0 l1 l2
        clear k3
        refine hK.out _ _ ?rftahS1 (fun hHeld => ?_)
        case rftahS1 => exact ⟨l0, l1, l2⟩
        clear hK K
        try simp only [Act.put, List.setIfInBounds_toArray, List.set_cons_zero, List.set_cons_succ]
        refine wpAnyH_take (i := 2) (oi := { dst := some 22, op := Op.binOp BinOp.eql 29 (Operand.tmp 21) (Operand.const (Value.int IntKind.i64 0)) 29, type := 4, pos := "law.go:30", after := #[{ on := 1, ground := Ground.data }], guard := none }) (v := ?rftav2) rfl (by kernel_rfl) (by kernel_rfl) (by kernel_rfl) (fun _ _ _ h => h) (Or.inl ⟨by rfl, ?rftay2⟩) hHeld ?rftar2
        case rftay2 => (intro w hSw; (try dsimp only at hSw); go_simp; (try with_reducible rfl))
        try simp only [Act.put, List.setIfInBounds_toArray, List.set_cons_zero, List.set_cons_succ]
        refine wpAnyH_take (i := 4) (oi := { dst := some 24, op := Op.binOp BinOp.eql 4 (Operand.tmp 22) (Operand.tmp 23) 4, type := 4, pos := "law.go:30", after := #[{ on := 2, ground := Ground.data }, { on := 3, ground := Ground.data }], guard := none }) (v := ?rftav4) rfl (by kernel_rfl) (by kernel_rfl) (by kernel_rfl) (fun _ _ _ h => h) (Or.inl ⟨by rfl, ?rftay4⟩) hHeld ?rftar4
        case rftay4 => (intro w hSw; (try dsimp only at hSw); go_simp; (try with_reducible rfl))
        try simp only [Act.put, List.setIfInBounds_toArray, List.set_cons_zero, List.set_cons_succ]
        refine wpAnyH_take (i := 5) (oi := { dst := some 25, op := Op.move (Operand.tmp 24), type := 4, pos := "law.go:30", after := #[{ on := 4, ground := Ground.data }, { on := 1, ground := Ground.chain }], guard := none }) (v := ?rftav5) rfl (by kernel_rfl) (by kernel_rfl) (by kernel_rfl) (fun _ _ _ h => h) (Or.inl ⟨by rfl, ?rftay5⟩) hHeld ?rftar5
        case rftay5 => (intro w hSw; (try dsimp only at hSw); go_simp; (try with_reducible rfl))
        try simp only [Act.put, List.setIfInBounds_toArray, List.set_cons_zero, List.set_cons_succ]
        refine wpAnyH_take (i := 6) (oi := { dst := some 26, op := Op.load 26 (Operand.tmp 1), type := 26, pos := "law.go:30", after := #[{ on := 5, ground := Ground.guard }], guard := some (5, true) }) (v := ?rftav6) rfl (by kernel_rfl) (by kernel_rfl) (by kernel_rfl) (fun _ _ _ h => h) (Or.inl ⟨by rfl, ?rftay6⟩) hHeld ?rftar6
        case rftay6 => (intro w hSw; (try dsimp only at hSw); go_simp; (try with_reducible rfl))
        try simp only [Act.put, List.setIfInBounds_toArray, List.set_cons_zero, List.set_cons_succ]
        refine wpAnyH_take (i := 9) (oi := { dst := some 29, op := Op.load 26 (Operand.tmp 1), type := 26, pos := "law.go:30", after := #[{ on := 5, ground := Ground.guard }], guard := some (5, true) }) (v := ?rftav9) rfl (by kernel_rfl) (by kernel_rfl) (by kernel_rfl) (fun _ _ _ h => h) (Or.inl ⟨by rfl, ?rftay9⟩) hHeld ?rftar9
        case rftay9 => (intro w hSw; (try dsimp only at hSw); go_simp; (try with_reducible rfl))
        try simp only [Act.put, List.setIfInBounds_toArray, List.set_cons_zero, List.set_cons_succ]
        refine wpAnyH_ready (rs := [7]) (by kernel_rfl) (by simp) ?_
        refine AllReadyH.cons (o := { dst := some 27, op := Op.call { callee := Callee.value (Operand.func 15), args := #[Operand.tmp 26], argTypes := #[26] }, type := 29, pos := "law.go:30", after := #[{ on := 6, ground := Ground.data }, { on := 5, ground := Ground.chain }, { on := 5, ground := Ground.guard }], guard := some (5, true) }) rfl (fun K hK => ?_) AllReadyH.nil
        go_simp
        (with_reducible refine (CS2.out _ (HT.out.keep HK.out) (HF.out.keep HK.out)).mono ?_)
        rintro e wx ⟨rfl, k3⟩
        show K _ _
        clear hHeld
        clear l0 l1 l2
        have Blx := kept (Bl.out.keep k3 (by simp))
        have HKx := kept (HK.out.and_then k3)
        clear Bl HK
        have Bl := Blx
        have HK := HKx
        clear Blx HKx
        have l0 := Bl.out.cell 0
        have l1 := Bl.out.cell 1
        have l2 := Bl.out.cell 2
        simp at l0 l1 l2
        clear k3
        refine hK.out _ _ ?rftahS7 (fun hHeld => ?_)
        case rftahS7 => exact ⟨l0, l1, l2⟩
        clear hK K
        try simp only [Act.put, List.setIfInBounds_toArray, List.set_cons_zero, List.set_cons_succ]
        refine wpAnyH_take (i := 8) (oi := { dst := some 28, op := Op.binOp BinOp.eql 29 (Operand.tmp 27) (Operand.const (Value.int IntKind.i64 0)) 29, type := 4, pos := "law.go:30", after := #[{ on := 7, ground := Ground.data }, { on := 5, ground := Ground.guard }], guard := some (5, true) }) (v := ?rftav8) rfl (by kernel_rfl) (by kernel_rfl) (by kernel_rfl) (fun _ _ _ h => h) (Or.inl ⟨by rfl, ?rftay8⟩) hHeld ?rftar8
        case rftay8 => (intro w hSw; (try dsimp only at hSw); go_simp; (try with_reducible rfl))
        try simp only [Act.put, List.setIfInBounds_toArray, List.set_cons_zero, List.set_cons_succ]
        refine wpAnyH_ready (rs := [10]) (by kernel_rfl) (by simp) ?_
        refine AllReadyH.cons (o := { dst := some 30, op := Op.call { callee := Callee.value (Operand.func 16), args := #[Operand.tmp 29], argTypes := #[26] }, type := 4, pos := "law.go:30", after := #[{ on := 9, ground := Ground.data }, { on := 7, ground := Ground.chain }, { on := 5, ground := Ground.guard }], guard := some (5, true) }) rfl (fun K hK => ?_) AllReadyH.nil
        go_simp
        (with_reducible refine (CSl2.out _ (HT.out.keep HK.out) (HF.out.keep HK.out)).mono ?_)
        rintro e wx ⟨rfl, k3⟩
        show K _ _
        clear hHeld
        clear l0 l1 l2
        have Blx := kept (Bl.out.keep k3 (by simp))
        have HKx := kept (HK.out.and_then k3)
        clear Bl HK
        have Bl := Blx
        have HK := HKx
        clear Blx HKx
        have l0 := Bl.out.cell 0
        have l1 := Bl.out.cell 1
        have l2 := Bl.out.cell 2
        simp at l0 l1 l2
        clear k3
        refine hK.out _ _ ?rftahS10 (fun hHeld => ?_)
        case rftahS10 => exact ⟨l0, l1, l2⟩
        clear hK K
        try simp only [Act.put, List.setIfInBounds_toArray, List.set_cons_zero, List.set_cons_succ]
        refine wpAnyH_take (i := 11) (oi := { dst := some 31, op := Op.binOp BinOp.eql 4 (Operand.tmp 28) (Operand.tmp 30) 4, type := 4, pos := "law.go:30", after := #[{ on := 8, ground := Ground.data }, { on := 10, ground := Ground.data }, { on := 5, ground := Ground.guard }], guard := some (5, true) }) (v := ?rftav11) rfl (by kernel_rfl) (by kernel_rfl) (by kernel_rfl) (fun _ _ _ h => h) (Or.inl ⟨by rfl, ?rftay11⟩) hHeld ?rftar11
        case rftay11 => (intro w hSw; (try dsimp only at hSw); go_simp; (try with_reducible rfl))
        try simp only [Act.put, List.setIfInBounds_toArray, List.set_cons_zero, List.set_cons_succ]
        refine wpAnyH_take (i := 12) (oi := { dst := some 32, op := Op.pick (Operand.tmp 25) (Operand.tmp 31) (Operand.const (Value.bool false)), type := 4, pos := "law.go:30", after := #[{ on := 5, ground := Ground.data }, { on := 11, ground := Ground.data }], guard := none }) (v := ?rftav12) rfl (by kernel_rfl) (by kernel_rfl) (by kernel_rfl) (fun _ _ _ h => h) (Or.inl ⟨by rfl, ?rftay12⟩) hHeld ?rftar12
        case rftay12 => (intro w hSw; (try dsimp only at hSw); go_simp; (try with_reducible rfl))
        try simp only [Act.put, List.setIfInBounds_toArray, List.set_cons_zero, List.set_cons_succ]
        refine wpAnyH_take (i := 13) (oi := { dst := some 33, op := Op.move (Operand.tmp 32), type := 4, pos := "law.go:30", after := #[{ on := 12, ground := Ground.data }, { on := 10, ground := Ground.chain }], guard := none }) (v := ?rftav13) rfl (by kernel_rfl) (by kernel_rfl) (by kernel_rfl) (fun _ _ _ h => h) (Or.inl ⟨by rfl, ?rftay13⟩) hHeld ?rftar13
        case rftay13 => (intro w hSw; (try dsimp only at hSw); go_simp; (try with_reducible rfl))
        try simp only [Act.put, List.setIfInBounds_toArray, List.set_cons_zero, List.set_cons_succ]
        refine wpAnyH_take (i := 14) (oi := { dst := some 34, op := Op.move (Operand.tmp 4), type := 4, pos := "law.go:30", after := #[{ on := 13, ground := Ground.guard }], guard := some (13, true) }) (v := ?rftav14) rfl (by kernel_rfl) (by kernel_rfl) (by kernel_rfl) (fun _ _ _ h => h) (Or.inl ⟨by rfl, ?rftay14⟩) hHeld ?rftar14
        case rftay14 => (intro w hSw; (try dsimp only at hSw); go_simp; (try with_reducible rfl))
        try simp only [Act.put, List.setIfInBounds_toArray, List.set_cons_zero, List.set_cons_succ]
        refine wpAnyH_take (i := 15) (oi := { dst := some 35, op := Op.move (Operand.tmp 34), type := 4, pos := "law.go:30", after := #[{ on := 14, ground := Ground.data }, { on := 13, ground := Ground.chain }, { on := 13, ground := Ground.guard }], guard := some (13, true) }) (v := ?rftav15) rfl (by kernel_rfl) (by kernel_rfl) (by kernel_rfl) (fun _ _ _ h => h) (Or.inl ⟨by rfl, ?rftay15⟩) hHeld ?rftar15
        case rftay15 => (intro w hSw; (try dsimp only at hSw); go_simp; (try with_reducible rfl))
        try simp only [Act.put, List.setIfInBounds_toArray, List.set_cons_zero, List.set_cons_succ]
        refine wpAnyH_take (i := 16) (oi := { dst := some 36, op := Op.load 26 (Operand.tmp 1), type := 26, pos := "law.go:30", after := #[{ on := 15, ground := Ground.guard }], guard := some (15, false) }) (v := ?rftav16) rfl (by kernel_rfl) (by kernel_rfl) (by kernel_rfl) (fun _ _ _ h => h) (Or.inl ⟨by rfl, ?rftay16⟩) hHeld ?rftar16
        case rftay16 => (intro w hSw; (try dsimp only at hSw); go_simp; (try with_reducible rfl))
        try simp only [Act.put, List.setIfInBounds_toArray, List.set_cons_zero, List.set_cons_succ]
        refine wpAnyH_ready (rs := [17]) (by kernel_rfl) (by simp) ?_
        refine AllReadyH.cons (o := { dst := some 37, op := Op.call { callee := Callee.value (Operand.func 14), args := #[Operand.tmp 36], argTypes := #[26] }, type := 29, pos := "law.go:30", after := #[{ on := 16, ground := Ground.data }, { on := 15, ground := Ground.chain }, { on := 15, ground := Ground.guard }], guard := some (15, false) }) rfl (fun K hK => ?_) AllReadyH.nil
        go_simp
        (with_reducible refine (CT2.out _ (HT.out.keep HK.out) (HF.out.keep HK.out)).mono ?_)
        rintro e wx ⟨rfl, k3⟩
        show K _ _
        clear hHeld
        clear l0 l1 l2
        have Blx := kept (Bl.out.keep k3 (by simp))
        have HKx := kept (HK.out.and_then k3)
        clear Bl HK
        have Bl := Blx
        have HK := HKx
        clear Blx HKx
        have l0 := Bl.out.cell 0
        have l1 := Bl.out.cell 1
        have l2 := Bl.out.cell 2
        simp at l0 l1 l2
        clear k3
        refine hK.out _ _ ?rftahS17 (fun hHeld => ?_)
        case rftahS17 => exact ⟨l0, l1, l2⟩
        clear hK K
        try simp only [Act.put, List.setIfInBounds_toArray, List.set_cons_zero, List.set_cons_succ]
        refine wpAnyH_take (i := 18) (oi := { dst := some 38, op := Op.binOp BinOp.eql 29 (Operand.tmp 37) (Operand.const (Value.int IntKind.i64 3)) 29, type := 4, pos := "law.go:30", after := #[{ on := 17, ground := Ground.data }, { on := 15, ground := Ground.guard }], guard := some (15, false) }) (v := ?rftav18) rfl (by kernel_rfl) (by kernel_rfl) (by kernel_rfl) (fun _ _ _ h => h) (Or.inl ⟨by rfl, ?rftay18⟩) hHeld ?rftar18
        case rftay18 => (intro w hSw; (try dsimp only at hSw); go_simp; (try with_reducible rfl))
        try simp only [Act.put, List.setIfInBounds_toArray, List.set_cons_zero, List.set_cons_succ]
        refine wpAnyH_take (i := 19) (oi := { dst := some 39, op := Op.pick (Operand.tmp 35) (Operand.const (Value.bool true)) (Operand.tmp 38), type := 4, pos := "law.go:30", after := #[{ on := 15, ground := Ground.data }, { on := 18, ground := Ground.data }, { on := 13, ground := Ground.guard }], guard := some (13, true) }) (v := ?rftav19) rfl (by kernel_rfl) (by kernel_rfl) (by kernel_rfl) (fun _ _ _ h => h) (Or.inl ⟨by rfl, ?rftay19⟩) hHeld ?rftar19
        case rftay19 => (intro w hSw; (try dsimp only at hSw); go_simp; (try with_reducible rfl))
        try simp only [Act.put, List.setIfInBounds_toArray, List.set_cons_zero, List.set_cons_succ]
        refine wpAnyH_take (i := 20) (oi := { dst := some 40, op := Op.pick (Operand.tmp 33) (Operand.tmp 39) (Operand.const (Value.bool false)), type := 4, pos := "law.go:30", after := #[{ on := 13, ground := Ground.data }, { on := 19, ground := Ground.data }], guard := none }) (v := ?rftav20) rfl (by kernel_rfl) (by kernel_rfl) (by kernel_rfl) (fun _ _ _ h => h) (Or.inl ⟨by rfl, ?rftay20⟩) hHeld ?rftar20
        case rftay20 => (intro w hSw; (try dsimp only at hSw); go_simp; (try with_reducible rfl))
        try simp only [Act.put, List.setIfInBounds_toArray, List.set_cons_zero, List.set_cons_succ]
        refine wpAnyH_take (i := 21) (oi := { dst := some 41, op := Op.move (Operand.tmp 40), type := 4, pos := "law.go:30", after := #[{ on := 20, ground := Ground.data }, { on := 17, ground := Ground.chain }], guard := none }) (v := ?rftav21) rfl (by kernel_rfl) (by kernel_rfl) (by kernel_rfl) (fun _ _ _ h => h) (Or.inl ⟨by rfl, ?rftay21⟩) hHeld ?rftar21
        case rftay21 => (intro w hSw; (try dsimp only at hSw); go_simp; (try with_reducible rfl))
        try simp only [Act.put, List.setIfInBounds_toArray, List.set_cons_zero, List.set_cons_succ]
        refine wpAnyH_take (i := 22) (oi := { dst := some 42, op := Op.load 26 (Operand.tmp 1), type := 26, pos := "law.go:30", after := #[{ on := 21, ground := Ground.guard }], guard := some (21, true) }) (v := ?rftav22) rfl (by kernel_rfl) (by kernel_rfl) (by kernel_rfl) (fun _ _ _ h => h) (Or.inl ⟨by rfl, ?rftay22⟩) hHeld ?rftar22
        case rftay22 => (intro w hSw; (try dsimp only at hSw); go_simp; (try with_reducible rfl))
        try simp only [Act.put, List.setIfInBounds_toArray, List.set_cons_zero, List.set_cons_succ]
        refine wpAnyH_ready (rs := [23]) (by kernel_rfl) (by simp) ?_
        refine AllReadyH.cons (o := { dst := some 43, op := Op.call { callee := Callee.value (Operand.func 16), args := #[Operand.tmp 42], argTypes := #[26] }, type := 4, pos := "law.go:30", after := #[{ on := 22, ground := Ground.data }, { on := 21, ground := Ground.chain }, { on := 21, ground := Ground.guard }], guard := some (21, true) }) rfl (fun K hK => ?_) AllReadyH.nil
        go_simp
        (with_reducible refine (CSl2.out _ (HT.out.keep HK.out) (HF.out.keep HK.out)).mono ?_)
        rintro e wx ⟨rfl, k3⟩
        show K _ _
        clear hHeld
        clear l0 l1 l2
        have Blx := kept (Bl.out.keep k3 (by simp))
        have HKx := kept (HK.out.and_then k3)
        clear Bl HK
        have Bl := Blx
        have HK := HKx
        clear Blx HKx
        have l0 := Bl.out.cell 0
        have l1 := Bl.out.cell 1
        have l2 := Bl.out.cell 2
        simp at l0 l1 l2
        clear k3
        refine hK.out _ _ ?rftahS23 (fun hHeld => ?_)
        case rftahS23 => exact ⟨l0, l1, l2⟩
        clear hK K
        try simp only [Act.put, List.setIfInBounds_toArray, List.set_cons_zero, List.set_cons_succ]
        refine wpAnyH_take (i := 24) (oi := { dst := some 44, op := Op.move (Operand.tmp 43), type := 4, pos := "law.go:30", after := #[{ on := 23, ground := Ground.data }, { on := 23, ground := Ground.chain }, { on := 21, ground := Ground.guard }], guard := some (21, true) }) (v := ?rftav24) rfl (by kernel_rfl) (by kernel_rfl) (by kernel_rfl) (fun _ _ _ h => h) (Or.inl ⟨by rfl, ?rftay24⟩) hHeld ?rftar24
        case rftay24 => (intro w hSw; (try dsimp only at hSw); go_simp; (try with_reducible rfl))
        try simp only [Act.put, List.setIfInBounds_toArray, List.set_cons_zero, List.set_cons_succ]
        refine wpAnyH_take (i := 25) (oi := { dst := some 45, op := Op.load 26 (Operand.tmp 1), type := 26, pos := "law.go:30", after := #[{ on := 24, ground := Ground.guard }], guard := some (24, false) }) (v := undef) rfl (by kernel_rfl) (by kernel_rfl) (by kernel_rfl) (fun _ _ _ h => h) (Or.inr ⟨by rfl, rfl⟩) hHeld ?_
        try simp only [Act.put, List.setIfInBounds_toArray, List.set_cons_zero, List.set_cons_succ]
        refine wpAnyH_take (i := 26) (oi := { dst := some 46, op := Op.call { callee := Callee.value (Operand.func 15), args := #[Operand.tmp 45], argTypes := #[26] }, type := 29, pos := "law.go:30", after := #[{ on := 25, ground := Ground.data }, { on := 24, ground := Ground.chain }, { on := 24, ground := Ground.guard }], guard := some (24, false) }) (v := undef) rfl (by kernel_rfl) (by kernel_rfl) (by kernel_rfl) (fun _ _ _ h => h) (Or.inr ⟨by rfl, rfl⟩) hHeld ?_
        try simp only [Act.put, List.setIfInBounds_toArray, List.set_cons_zero, List.set_cons_succ]
        refine wpAnyH_take (i := 27) (oi := { dst := some 47, op := Op.binOp BinOp.eql 29 (Operand.tmp 46) (Operand.const (Value.int IntKind.i64 3)) 29, type := 4, pos := "law.go:30", after := #[{ on := 26, ground := Ground.data }, { on := 24, ground := Ground.guard }], guard := some (24, false) }) (v := undef) rfl (by kernel_rfl) (by kernel_rfl) (by kernel_rfl) (fun _ _ _ h => h) (Or.inr ⟨by rfl, rfl⟩) hHeld ?_
        try simp only [Act.put, List.setIfInBounds_toArray, List.set_cons_zero, List.set_cons_succ]
        refine wpAnyH_take (i := 28) (oi := { dst := some 48, op := Op.pick (Operand.tmp 44) (Operand.const (Value.bool true)) (Operand.tmp 47), type := 4, pos := "law.go:30", after := #[{ on := 24, ground := Ground.data }, { on := 27, ground := Ground.data }, { on := 21, ground := Ground.guard }], guard := some (21, true) }) (v := ?rftav28) rfl (by kernel_rfl) (by kernel_rfl) (by kernel_rfl) (fun _ _ _ h => h) (Or.inl ⟨by rfl, ?rftay28⟩) hHeld ?rftar28
        case rftay28 => (intro w hSw; (try dsimp only at hSw); go_simp; (try with_reducible rfl))
        try simp only [Act.put, List.setIfInBounds_toArray, List.set_cons_zero, List.set_cons_succ]
        refine wpAnyH_take (i := 29) (oi := { dst := some 49, op := Op.pick (Operand.tmp 41) (Operand.tmp 48) (Operand.const (Value.bool false)), type := 4, pos := "law.go:30", after := #[{ on := 21, ground := Ground.data }, { on := 28, ground := Ground.data }], guard := none }) (v := ?rftav29) rfl (by kernel_rfl) (by kernel_rfl) (by kernel_rfl) (fun _ _ _ h => h) (Or.inl ⟨by rfl, ?rftay29⟩) hHeld ?rftar29
        case rftay29 => (intro w hSw; (try dsimp only at hSw); go_simp; (try with_reducible rfl))
        try simp only [Act.put, List.setIfInBounds_toArray, List.set_cons_zero, List.set_cons_succ]
        refine wpAnyH_take (i := 30) (oi := { dst := some 2, op := Op.assign (Operand.tmp 49), type := 4, pos := "law.go:30", after := #[{ on := 29, ground := Ground.data }, { on := 26, ground := Ground.chain }, { on := 0, ground := Ground.phase }, { on := 1, ground := Ground.phase }, { on := 2, ground := Ground.phase }, { on := 3, ground := Ground.phase }, { on := 4, ground := Ground.phase }, { on := 5, ground := Ground.phase }, { on := 6, ground := Ground.phase }, { on := 7, ground := Ground.phase }, { on := 8, ground := Ground.phase }, { on := 9, ground := Ground.phase }, { on := 10, ground := Ground.phase }, { on := 11, ground := Ground.phase }, { on := 12, ground := Ground.phase }, { on := 13, ground := Ground.phase }, { on := 14, ground := Ground.phase }, { on := 15, ground := Ground.phase }, { on := 16, ground := Ground.phase }, { on := 17, ground := Ground.phase }, { on := 18, ground := Ground.phase }, { on := 19, ground := Ground.phase }, { on := 20, ground := Ground.phase }, { on := 21, ground := Ground.phase }, { on := 22, ground := Ground.phase }, { on := 23, ground := Ground.phase }, { on := 24, ground := Ground.phase }, { on := 25, ground := Ground.phase }, { on := 26, ground := Ground.phase }, { on := 27, ground := Ground.phase }, { on := 28, ground := Ground.phase }, { on := 29, ground := Ground.phase }], guard := none }) (v := ?rftav30) rfl (by kernel_rfl) (by kernel_rfl) (by kernel_rfl) (fun _ _ _ h => h) (Or.inl ⟨by rfl, ?rftay30⟩) hHeld ?rftar30
        case rftay30 => (intro w hSw; (try dsimp only at hSw); go_simp; (try with_reducible rfl))
        try simp only [Act.put, List.setIfInBounds_toArray, List.set_cons_zero, List.set_cons_succ]
        refine wpAnyH_done (by kernel_rfl) ?_ _
        clear hHeld
        go_wp2
        go_ret
        exact ⟨rfl, HK.out⟩
    | true =>
      rw [hs] at CSh2 hAB
      rw [Bool.true_and] at hAB
      have CRT3 := kept (fun W h1 => CRT2.out W h1 hs)
      rw [hAB] at CRT3
      cases AB with
      | false =>
        obtain rfl : te = 3 := by have := HTE.out; simpa using this
        go_wp2_with (first | (go_at_call 12; refine (CSh2.out _ (HT.out.keep HK.out) (HF.out.keep HK.out)).mono ?_; rintro e w5 ⟨rfl, k3⟩; clear l0 l1 l2; have Blx := kept (Bl.out.keep k3 (by simp)); have HKx := kept (HK.out.and_then k3); clear Bl HK; have Bl := Blx; have HK := HKx; clear Blx HKx; have l0 := Bl.out.cell 0; have l1 := Bl.out.cell 1; have l2 := Bl.out.cell 2; simp at l0 l1 l2; clear k3) | (go_at_call 13; refine (CRT3.out _ (HF.out.keep HK.out)).mono ?_; rintro e w6 ⟨rfl, k3⟩; clear l0 l1 l2; have Blx := kept (Bl.out.keep k3 (by simp)); have HKx := kept (HK.out.and_then k3); clear Bl HK; have Bl := Blx; have HK := HKx; clear Blx HKx; have l0 := Bl.out.cell 0; have l1 := Bl.out.cell 1; have l2 := Bl.out.cell 2; simp at l0 l1 l2; clear k3) | fail)
        cases BB with
        | false =>
          obtain rfl : se = 3 := by have := HSE.out; simpa using this
          refine wp_region_held_drew (S := (fun w' => w'.cell? ⟨w.heap.size, 0, none⟩ = some (.slice a0 f.nv c0) ∧ w'.cell? ⟨w.heap.size, 1, none⟩ = some (.slice a1 f.np c1) ∧ w'.cell? ⟨w.heap.size, 2, none⟩ = some (.slice a2 f.nb c2))) (by kernel_rfl) ?rffbhSs (fun hHeld => ?_)
          case rffbhSs => exact ⟨l0, l1, l2⟩
          clear l0 l1 l2
          have Blx := kept (Bl.out.keep ((Keeps.refl _ []).drew) (by simp))
          have HKx := kept (HK.out.drew)
          clear Bl HK
          have Bl := Blx
          have HK := HKx
          clear Blx HKx
          generalize World.drew _ = X0 at *
          have l0 := Bl.out.cell 0
          have l1 := Bl.out.cell 1
          have l2 := Bl.out.cell 2
          simp at l0 l1 l2
          refine wpAnyH_take (i := 0) (oi := { dst := some 20, op := Op.load 26 (Operand.tmp 1), type := 26, pos := "law.go:30", after := #[], guard := none }) (v := ?rffbv0) rfl (by kernel_rfl) (by kernel_rfl) (by kernel_rfl) (fun _ _ _ h => h) (Or.inl ⟨by rfl, ?rffby0⟩) hHeld ?rffbr0
          case rffby0 => (intro w hSw; (try dsimp only at hSw); go_simp; (try with_reducible rfl))
          try simp only [Act.put, List.setIfInBounds_toArray, List.set_cons_zero, List.set_cons_succ]
          refine wpAnyH_take (i := 3) (oi := { dst := some 23, op := Op.move (Operand.tmp 4), type := 4, pos := "law.go:30", after := #[], guard := none }) (v := ?rffbv3) rfl (by kernel_rfl) (by kernel_rfl) (by kernel_rfl) (fun _ _ _ h => h) (Or.inl ⟨by rfl, ?rffby3⟩) hHeld ?rffbr3
          case rffby3 => (intro w hSw; (try dsimp only at hSw); go_simp; (try with_reducible rfl))
          try simp only [Act.put, List.setIfInBounds_toArray, List.set_cons_zero, List.set_cons_succ]
          refine wpAnyH_ready (rs := [1]) (by kernel_rfl) (by simp) ?_
          refine AllReadyH.cons (o := { dst := some 21, op := Op.call { callee := Callee.value (Operand.func 14), args := #[Operand.tmp 20], argTypes := #[26] }, type := 29, pos := "law.go:30", after := #[{ on := 0, ground := Ground.data }], guard := none }) rfl (fun K hK => ?_) AllReadyH.nil
          go_simp
          (with_reducible refine (CT2.out _ (HT.out.keep HK.out) (HF.out.keep HK.out)).mono ?_)
          rintro e wx ⟨rfl, k3⟩
          show K _ _
          clear hHeld
          clear l0 l1 l2
          have Blx := kept (Bl.out.keep k3 (by simp))
          have HKx := kept (HK.out.and_then k3)
          clear Bl HK
          have Bl := Blx
          have HK := HKx
          clear Blx HKx
          have l0 := Bl.out.cell 0
          have l1 := Bl.out.cell 1
          have l2 := Bl.out.cell 2
          simp at l0 l1 l2
          clear k3
          refine hK.out _ _ ?rffbhS1 (fun hHeld => ?_)
          case rffbhS1 => exact ⟨l0, l1, l2⟩
          clear hK K
          try simp only [Act.put, List.setIfInBounds_toArray, List.set_cons_zero, List.set_cons_succ]
          refine wpAnyH_take (i := 2) (oi := { dst := some 22, op := Op.binOp BinOp.eql 29 (Operand.tmp 21) (Operand.const (Value.int IntKind.i64 0)) 29, type := 4, pos := "law.go:30", after := #[{ on := 1, ground := Ground.data }], guard := none }) (v := ?rffbv2) rfl (by kernel_rfl) (by kernel_rfl) (by kernel_rfl) (fun _ _ _ h => h) (Or.inl ⟨by rfl, ?rffby2⟩) hHeld ?rffbr2
          case rffby2 => (intro w hSw; (try dsimp only at hSw); go_simp; (try with_reducible rfl))
          try simp only [Act.put, List.setIfInBounds_toArray, List.set_cons_zero, List.set_cons_succ]
          refine wpAnyH_take (i := 4) (oi := { dst := some 24, op := Op.binOp BinOp.eql 4 (Operand.tmp 22) (Operand.tmp 23) 4, type := 4, pos := "law.go:30", after := #[{ on := 2, ground := Ground.data }, { on := 3, ground := Ground.data }], guard := none }) (v := ?rffbv4) rfl (by kernel_rfl) (by kernel_rfl) (by kernel_rfl) (fun _ _ _ h => h) (Or.inl ⟨by rfl, ?rffby4⟩) hHeld ?rffbr4
          case rffby4 => (intro w hSw; (try dsimp only at hSw); go_simp; (try with_reducible rfl))
          try simp only [Act.put, List.setIfInBounds_toArray, List.set_cons_zero, List.set_cons_succ]
          refine wpAnyH_take (i := 5) (oi := { dst := some 25, op := Op.move (Operand.tmp 24), type := 4, pos := "law.go:30", after := #[{ on := 4, ground := Ground.data }, { on := 1, ground := Ground.chain }], guard := none }) (v := ?rffbv5) rfl (by kernel_rfl) (by kernel_rfl) (by kernel_rfl) (fun _ _ _ h => h) (Or.inl ⟨by rfl, ?rffby5⟩) hHeld ?rffbr5
          case rffby5 => (intro w hSw; (try dsimp only at hSw); go_simp; (try with_reducible rfl))
          try simp only [Act.put, List.setIfInBounds_toArray, List.set_cons_zero, List.set_cons_succ]
          refine wpAnyH_take (i := 6) (oi := { dst := some 26, op := Op.load 26 (Operand.tmp 1), type := 26, pos := "law.go:30", after := #[{ on := 5, ground := Ground.guard }], guard := some (5, true) }) (v := ?rffbv6) rfl (by kernel_rfl) (by kernel_rfl) (by kernel_rfl) (fun _ _ _ h => h) (Or.inl ⟨by rfl, ?rffby6⟩) hHeld ?rffbr6
          case rffby6 => (intro w hSw; (try dsimp only at hSw); go_simp; (try with_reducible rfl))
          try simp only [Act.put, List.setIfInBounds_toArray, List.set_cons_zero, List.set_cons_succ]
          refine wpAnyH_take (i := 9) (oi := { dst := some 29, op := Op.load 26 (Operand.tmp 1), type := 26, pos := "law.go:30", after := #[{ on := 5, ground := Ground.guard }], guard := some (5, true) }) (v := ?rffbv9) rfl (by kernel_rfl) (by kernel_rfl) (by kernel_rfl) (fun _ _ _ h => h) (Or.inl ⟨by rfl, ?rffby9⟩) hHeld ?rffbr9
          case rffby9 => (intro w hSw; (try dsimp only at hSw); go_simp; (try with_reducible rfl))
          try simp only [Act.put, List.setIfInBounds_toArray, List.set_cons_zero, List.set_cons_succ]
          refine wpAnyH_ready (rs := [7]) (by kernel_rfl) (by simp) ?_
          refine AllReadyH.cons (o := { dst := some 27, op := Op.call { callee := Callee.value (Operand.func 15), args := #[Operand.tmp 26], argTypes := #[26] }, type := 29, pos := "law.go:30", after := #[{ on := 6, ground := Ground.data }, { on := 5, ground := Ground.chain }, { on := 5, ground := Ground.guard }], guard := some (5, true) }) rfl (fun K hK => ?_) AllReadyH.nil
          go_simp
          (with_reducible refine (CS2.out _ (HT.out.keep HK.out) (HF.out.keep HK.out)).mono ?_)
          rintro e wx ⟨rfl, k3⟩
          show K _ _
          clear hHeld
          clear l0 l1 l2
          have Blx := kept (Bl.out.keep k3 (by simp))
          have HKx := kept (HK.out.and_then k3)
          clear Bl HK
          have Bl := Blx
          have HK := HKx
          clear Blx HKx
          have l0 := Bl.out.cell 0
          have l1 := Bl.out.cell 1
          have l2 := Bl.out.cell 2
          simp at l0 l1 l2
          clear k3
          refine hK.out _ _ ?rffbhS7 (fun hHeld => ?_)
          case rffbhS7 => exact ⟨l0, l1, l2⟩
          clear hK K
          try simp only [Act.put, List.setIfInBounds_toArray, List.set_cons_zero, List.set_cons_succ]
          refine wpAnyH_take (i := 8) (oi := { dst := some 28, op := Op.binOp BinOp.eql 29 (Operand.tmp 27) (Operand.const (Value.int IntKind.i64 0)) 29, type := 4, pos := "law.go:30", after := #[{ on := 7, ground := Ground.data }, { on := 5, ground := Ground.guard }], guard := some (5, true) }) (v := ?rffbv8) rfl (by kernel_rfl) (by kernel_rfl) (by kernel_rfl) (fun _ _ _ h => h) (Or.inl ⟨by rfl, ?rffby8⟩) hHeld ?rffbr8
          case rffby8 => (intro w hSw; (try dsimp only at hSw); go_simp; (try with_reducible rfl))
          try simp only [Act.put, List.setIfInBounds_toArray, List.set_cons_zero, List.set_cons_succ]
          refine wpAnyH_ready (rs := [10]) (by kernel_rfl) (by simp) ?_
          refine AllReadyH.cons (o := { dst := some 30, op := Op.call { callee := Callee.value (Operand.func 16), args := #[Operand.tmp 29], argTypes := #[26] }, type := 4, pos := "law.go:30", after := #[{ on := 9, ground := Ground.data }, { on := 7, ground := Ground.chain }, { on := 5, ground := Ground.guard }], guard := some (5, true) }) rfl (fun K hK => ?_) AllReadyH.nil
          go_simp
          (with_reducible refine (CSl2.out _ (HT.out.keep HK.out) (HF.out.keep HK.out)).mono ?_)
          rintro e wx ⟨rfl, k3⟩
          show K _ _
          clear hHeld
          clear l0 l1 l2
          have Blx := kept (Bl.out.keep k3 (by simp))
          have HKx := kept (HK.out.and_then k3)
          clear Bl HK
          have Bl := Blx
          have HK := HKx
          clear Blx HKx
          have l0 := Bl.out.cell 0
          have l1 := Bl.out.cell 1
          have l2 := Bl.out.cell 2
          simp at l0 l1 l2
          clear k3
          refine hK.out _ _ ?rffbhS10 (fun hHeld => ?_)
          case rffbhS10 => exact ⟨l0, l1, l2⟩
          clear hK K
          try simp only [Act.put, List.setIfInBounds_toArray, List.set_cons_zero, List.set_cons_succ]
          refine wpAnyH_take (i := 11) (oi := { dst := some 31, op := Op.binOp BinOp.eql 4 (Operand.tmp 28) (Operand.tmp 30) 4, type := 4, pos := "law.go:30", after := #[{ on := 8, ground := Ground.data }, { on := 10, ground := Ground.data }, { on := 5, ground := Ground.guard }], guard := some (5, true) }) (v := ?rffbv11) rfl (by kernel_rfl) (by kernel_rfl) (by kernel_rfl) (fun _ _ _ h => h) (Or.inl ⟨by rfl, ?rffby11⟩) hHeld ?rffbr11
          case rffby11 => (intro w hSw; (try dsimp only at hSw); go_simp; (try with_reducible rfl))
          try simp only [Act.put, List.setIfInBounds_toArray, List.set_cons_zero, List.set_cons_succ]
          refine wpAnyH_take (i := 12) (oi := { dst := some 32, op := Op.pick (Operand.tmp 25) (Operand.tmp 31) (Operand.const (Value.bool false)), type := 4, pos := "law.go:30", after := #[{ on := 5, ground := Ground.data }, { on := 11, ground := Ground.data }], guard := none }) (v := ?rffbv12) rfl (by kernel_rfl) (by kernel_rfl) (by kernel_rfl) (fun _ _ _ h => h) (Or.inl ⟨by rfl, ?rffby12⟩) hHeld ?rffbr12
          case rffby12 => (intro w hSw; (try dsimp only at hSw); go_simp; (try with_reducible rfl))
          try simp only [Act.put, List.setIfInBounds_toArray, List.set_cons_zero, List.set_cons_succ]
          refine wpAnyH_take (i := 13) (oi := { dst := some 33, op := Op.move (Operand.tmp 32), type := 4, pos := "law.go:30", after := #[{ on := 12, ground := Ground.data }, { on := 10, ground := Ground.chain }], guard := none }) (v := ?rffbv13) rfl (by kernel_rfl) (by kernel_rfl) (by kernel_rfl) (fun _ _ _ h => h) (Or.inl ⟨by rfl, ?rffby13⟩) hHeld ?rffbr13
          case rffby13 => (intro w hSw; (try dsimp only at hSw); go_simp; (try with_reducible rfl))
          try simp only [Act.put, List.setIfInBounds_toArray, List.set_cons_zero, List.set_cons_succ]
          refine wpAnyH_take (i := 14) (oi := { dst := some 34, op := Op.move (Operand.tmp 4), type := 4, pos := "law.go:30", after := #[{ on := 13, ground := Ground.guard }], guard := some (13, true) }) (v := ?rffbv14) rfl (by kernel_rfl) (by kernel_rfl) (by kernel_rfl) (fun _ _ _ h => h) (Or.inl ⟨by rfl, ?rffby14⟩) hHeld ?rffbr14
          case rffby14 => (intro w hSw; (try dsimp only at hSw); go_simp; (try with_reducible rfl))
          try simp only [Act.put, List.setIfInBounds_toArray, List.set_cons_zero, List.set_cons_succ]
          refine wpAnyH_take (i := 15) (oi := { dst := some 35, op := Op.move (Operand.tmp 34), type := 4, pos := "law.go:30", after := #[{ on := 14, ground := Ground.data }, { on := 13, ground := Ground.chain }, { on := 13, ground := Ground.guard }], guard := some (13, true) }) (v := ?rffbv15) rfl (by kernel_rfl) (by kernel_rfl) (by kernel_rfl) (fun _ _ _ h => h) (Or.inl ⟨by rfl, ?rffby15⟩) hHeld ?rffbr15
          case rffby15 => (intro w hSw; (try dsimp only at hSw); go_simp; (try with_reducible rfl))
          try simp only [Act.put, List.setIfInBounds_toArray, List.set_cons_zero, List.set_cons_succ]
          refine wpAnyH_take (i := 16) (oi := { dst := some 36, op := Op.load 26 (Operand.tmp 1), type := 26, pos := "law.go:30", after := #[{ on := 15, ground := Ground.guard }], guard := some (15, false) }) (v := ?rffbv16) rfl (by kernel_rfl) (by kernel_rfl) (by kernel_rfl) (fun _ _ _ h => h) (Or.inl ⟨by rfl, ?rffby16⟩) hHeld ?rffbr16
          case rffby16 => (intro w hSw; (try dsimp only at hSw); go_simp; (try with_reducible rfl))
          try simp only [Act.put, List.setIfInBounds_toArray, List.set_cons_zero, List.set_cons_succ]
          refine wpAnyH_ready (rs := [17]) (by kernel_rfl) (by simp) ?_
          refine AllReadyH.cons (o := { dst := some 37, op := Op.call { callee := Callee.value (Operand.func 14), args := #[Operand.tmp 36], argTypes := #[26] }, type := 29, pos := "law.go:30", after := #[{ on := 16, ground := Ground.data }, { on := 15, ground := Ground.chain }, { on := 15, ground := Ground.guard }], guard := some (15, false) }) rfl (fun K hK => ?_) AllReadyH.nil
          go_simp
          (with_reducible refine (CT2.out _ (HT.out.keep HK.out) (HF.out.keep HK.out)).mono ?_)
          rintro e wx ⟨rfl, k3⟩
          show K _ _
          clear hHeld
          clear l0 l1 l2
          have Blx := kept (Bl.out.keep k3 (by simp))
          have HKx := kept (HK.out.and_then k3)
          clear Bl HK
          have Bl := Blx
          have HK := HKx
          clear Blx HKx
          have l0 := Bl.out.cell 0
          have l1 := Bl.out.cell 1
          have l2 := Bl.out.cell 2
          simp at l0 l1 l2
          clear k3
          refine hK.out _ _ ?rffbhS17 (fun hHeld => ?_)
          case rffbhS17 => exact ⟨l0, l1, l2⟩
          clear hK K
          try simp only [Act.put, List.setIfInBounds_toArray, List.set_cons_zero, List.set_cons_succ]
          refine wpAnyH_take (i := 18) (oi := { dst := some 38, op := Op.binOp BinOp.eql 29 (Operand.tmp 37) (Operand.const (Value.int IntKind.i64 3)) 29, type := 4, pos := "law.go:30", after := #[{ on := 17, ground := Ground.data }, { on := 15, ground := Ground.guard }], guard := some (15, false) }) (v := ?rffbv18) rfl (by kernel_rfl) (by kernel_rfl) (by kernel_rfl) (fun _ _ _ h => h) (Or.inl ⟨by rfl, ?rffby18⟩) hHeld ?rffbr18
          case rffby18 => (intro w hSw; (try dsimp only at hSw); go_simp; (try with_reducible rfl))
          try simp only [Act.put, List.setIfInBounds_toArray, List.set_cons_zero, List.set_cons_succ]
          refine wpAnyH_take (i := 19) (oi := { dst := some 39, op := Op.pick (Operand.tmp 35) (Operand.const (Value.bool true)) (Operand.tmp 38), type := 4, pos := "law.go:30", after := #[{ on := 15, ground := Ground.data }, { on := 18, ground := Ground.data }, { on := 13, ground := Ground.guard }], guard := some (13, true) }) (v := ?rffbv19) rfl (by kernel_rfl) (by kernel_rfl) (by kernel_rfl) (fun _ _ _ h => h) (Or.inl ⟨by rfl, ?rffby19⟩) hHeld ?rffbr19
          case rffby19 => (intro w hSw; (try dsimp only at hSw); go_simp; (try with_reducible rfl))
          try simp only [Act.put, List.setIfInBounds_toArray, List.set_cons_zero, List.set_cons_succ]
          refine wpAnyH_take (i := 20) (oi := { dst := some 40, op := Op.pick (Operand.tmp 33) (Operand.tmp 39) (Operand.const (Value.bool false)), type := 4, pos := "law.go:30", after := #[{ on := 13, ground := Ground.data }, { on := 19, ground := Ground.data }], guard := none }) (v := ?rffbv20) rfl (by kernel_rfl) (by kernel_rfl) (by kernel_rfl) (fun _ _ _ h => h) (Or.inl ⟨by rfl, ?rffby20⟩) hHeld ?rffbr20
          case rffby20 => (intro w hSw; (try dsimp only at hSw); go_simp; (try with_reducible rfl))
          try simp only [Act.put, List.setIfInBounds_toArray, List.set_cons_zero, List.set_cons_succ]
          refine wpAnyH_take (i := 21) (oi := { dst := some 41, op := Op.move (Operand.tmp 40), type := 4, pos := "law.go:30", after := #[{ on := 20, ground := Ground.data }, { on := 17, ground := Ground.chain }], guard := none }) (v := ?rffbv21) rfl (by kernel_rfl) (by kernel_rfl) (by kernel_rfl) (fun _ _ _ h => h) (Or.inl ⟨by rfl, ?rffby21⟩) hHeld ?rffbr21
          case rffby21 => (intro w hSw; (try dsimp only at hSw); go_simp; (try with_reducible rfl))
          try simp only [Act.put, List.setIfInBounds_toArray, List.set_cons_zero, List.set_cons_succ]
          refine wpAnyH_take (i := 22) (oi := { dst := some 42, op := Op.load 26 (Operand.tmp 1), type := 26, pos := "law.go:30", after := #[{ on := 21, ground := Ground.guard }], guard := some (21, true) }) (v := ?rffbv22) rfl (by kernel_rfl) (by kernel_rfl) (by kernel_rfl) (fun _ _ _ h => h) (Or.inl ⟨by rfl, ?rffby22⟩) hHeld ?rffbr22
          case rffby22 => (intro w hSw; (try dsimp only at hSw); go_simp; (try with_reducible rfl))
          try simp only [Act.put, List.setIfInBounds_toArray, List.set_cons_zero, List.set_cons_succ]
          refine wpAnyH_ready (rs := [23]) (by kernel_rfl) (by simp) ?_
          refine AllReadyH.cons (o := { dst := some 43, op := Op.call { callee := Callee.value (Operand.func 16), args := #[Operand.tmp 42], argTypes := #[26] }, type := 4, pos := "law.go:30", after := #[{ on := 22, ground := Ground.data }, { on := 21, ground := Ground.chain }, { on := 21, ground := Ground.guard }], guard := some (21, true) }) rfl (fun K hK => ?_) AllReadyH.nil
          go_simp
          (with_reducible refine (CSl2.out _ (HT.out.keep HK.out) (HF.out.keep HK.out)).mono ?_)
          rintro e wx ⟨rfl, k3⟩
          show K _ _
          clear hHeld
          clear l0 l1 l2
          have Blx := kept (Bl.out.keep k3 (by simp))
          have HKx := kept (HK.out.and_then k3)
          clear Bl HK
          have Bl := Blx
          have HK := HKx
          clear Blx HKx
          have l0 := Bl.out.cell 0
          have l1 := Bl.out.cell 1
          have l2 := Bl.out.cell 2
          simp at l0 l1 l2
          clear k3
          refine hK.out _ _ ?rffbhS23 (fun hHeld => ?_)
          case rffbhS23 => exact ⟨l0, l1, l2⟩
          clear hK K
          try simp only [Act.put, List.setIfInBounds_toArray, List.set_cons_zero, List.set_cons_succ]
          refine wpAnyH_take (i := 24) (oi := { dst := some 44, op := Op.move (Operand.tmp 43), type := 4, pos := "law.go:30", after := #[{ on := 23, ground := Ground.data }, { on := 23, ground := Ground.chain }, { on := 21, ground := Ground.guard }], guard := some (21, true) }) (v := ?rffbv24) rfl (by kernel_rfl) (by kernel_rfl) (by kernel_rfl) (fun _ _ _ h => h) (Or.inl ⟨by rfl, ?rffby24⟩) hHeld ?rffbr24
          case rffby24 => (intro w hSw; (try dsimp only at hSw); go_simp; (try with_reducible rfl))
          try simp only [Act.put, List.setIfInBounds_toArray, List.set_cons_zero, List.set_cons_succ]
          refine wpAnyH_take (i := 25) (oi := { dst := some 45, op := Op.load 26 (Operand.tmp 1), type := 26, pos := "law.go:30", after := #[{ on := 24, ground := Ground.guard }], guard := some (24, false) }) (v := ?rffbv25) rfl (by kernel_rfl) (by kernel_rfl) (by kernel_rfl) (fun _ _ _ h => h) (Or.inl ⟨by rfl, ?rffby25⟩) hHeld ?rffbr25
          case rffby25 => (intro w hSw; (try dsimp only at hSw); go_simp; (try with_reducible rfl))
          try simp only [Act.put, List.setIfInBounds_toArray, List.set_cons_zero, List.set_cons_succ]
          refine wpAnyH_ready (rs := [26]) (by kernel_rfl) (by simp) ?_
          refine AllReadyH.cons (o := { dst := some 46, op := Op.call { callee := Callee.value (Operand.func 15), args := #[Operand.tmp 45], argTypes := #[26] }, type := 29, pos := "law.go:30", after := #[{ on := 25, ground := Ground.data }, { on := 24, ground := Ground.chain }, { on := 24, ground := Ground.guard }], guard := some (24, false) }) rfl (fun K hK => ?_) AllReadyH.nil
          go_simp
          (with_reducible refine (CS2.out _ (HT.out.keep HK.out) (HF.out.keep HK.out)).mono ?_)
          rintro e wx ⟨rfl, k3⟩
          show K _ _
          clear hHeld
          clear l0 l1 l2
          have Blx := kept (Bl.out.keep k3 (by simp))
          have HKx := kept (HK.out.and_then k3)
          clear Bl HK
          have Bl := Blx
          have HK := HKx
          clear Blx HKx
          have l0 := Bl.out.cell 0
          have l1 := Bl.out.cell 1
          have l2 := Bl.out.cell 2
          simp at l0 l1 l2
          clear k3
          refine hK.out _ _ ?rffbhS26 (fun hHeld => ?_)
          case rffbhS26 => exact ⟨l0, l1, l2⟩
          clear hK K
          try simp only [Act.put, List.setIfInBounds_toArray, List.set_cons_zero, List.set_cons_succ]
          refine wpAnyH_take (i := 27) (oi := { dst := some 47, op := Op.binOp BinOp.eql 29 (Operand.tmp 46) (Operand.const (Value.int IntKind.i64 3)) 29, type := 4, pos := "law.go:30", after := #[{ on := 26, ground := Ground.data }, { on := 24, ground := Ground.guard }], guard := some (24, false) }) (v := ?rffbv27) rfl (by kernel_rfl) (by kernel_rfl) (by kernel_rfl) (fun _ _ _ h => h) (Or.inl ⟨by rfl, ?rffby27⟩) hHeld ?rffbr27
          case rffby27 => (intro w hSw; (try dsimp only at hSw); go_simp; (try with_reducible rfl))
          try simp only [Act.put, List.setIfInBounds_toArray, List.set_cons_zero, List.set_cons_succ]
          refine wpAnyH_take (i := 28) (oi := { dst := some 48, op := Op.pick (Operand.tmp 44) (Operand.const (Value.bool true)) (Operand.tmp 47), type := 4, pos := "law.go:30", after := #[{ on := 24, ground := Ground.data }, { on := 27, ground := Ground.data }, { on := 21, ground := Ground.guard }], guard := some (21, true) }) (v := ?rffbv28) rfl (by kernel_rfl) (by kernel_rfl) (by kernel_rfl) (fun _ _ _ h => h) (Or.inl ⟨by rfl, ?rffby28⟩) hHeld ?rffbr28
          case rffby28 => (intro w hSw; (try dsimp only at hSw); go_simp; (try with_reducible rfl))
          try simp only [Act.put, List.setIfInBounds_toArray, List.set_cons_zero, List.set_cons_succ]
          refine wpAnyH_take (i := 29) (oi := { dst := some 49, op := Op.pick (Operand.tmp 41) (Operand.tmp 48) (Operand.const (Value.bool false)), type := 4, pos := "law.go:30", after := #[{ on := 21, ground := Ground.data }, { on := 28, ground := Ground.data }], guard := none }) (v := ?rffbv29) rfl (by kernel_rfl) (by kernel_rfl) (by kernel_rfl) (fun _ _ _ h => h) (Or.inl ⟨by rfl, ?rffby29⟩) hHeld ?rffbr29
          case rffby29 => (intro w hSw; (try dsimp only at hSw); go_simp; (try with_reducible rfl))
          try simp only [Act.put, List.setIfInBounds_toArray, List.set_cons_zero, List.set_cons_succ]
          refine wpAnyH_take (i := 30) (oi := { dst := some 2, op := Op.assign (Operand.tmp 49), type := 4, pos := "law.go:30", after := #[{ on := 29, ground := Ground.data }, { on := 26, ground := Ground.chain }, { on := 0, ground := Ground.phase }, { on := 1, ground := Ground.phase }, { on := 2, ground := Ground.phase }, { on := 3, ground := Ground.phase }, { on := 4, ground := Ground.phase }, { on := 5, ground := Ground.phase }, { on := 6, ground := Ground.phase }, { on := 7, ground := Ground.phase }, { on := 8, ground := Ground.phase }, { on := 9, ground := Ground.phase }, { on := 10, ground := Ground.phase }, { on := 11, ground := Ground.phase }, { on := 12, ground := Ground.phase }, { on := 13, ground := Ground.phase }, { on := 14, ground := Ground.phase }, { on := 15, ground := Ground.phase }, { on := 16, ground := Ground.phase }, { on := 17, ground := Ground.phase }, { on := 18, ground := Ground.phase }, { on := 19, ground := Ground.phase }, { on := 20, ground := Ground.phase }, { on := 21, ground := Ground.phase }, { on := 22, ground := Ground.phase }, { on := 23, ground := Ground.phase }, { on := 24, ground := Ground.phase }, { on := 25, ground := Ground.phase }, { on := 26, ground := Ground.phase }, { on := 27, ground := Ground.phase }, { on := 28, ground := Ground.phase }, { on := 29, ground := Ground.phase }], guard := none }) (v := ?rffbv30) rfl (by kernel_rfl) (by kernel_rfl) (by kernel_rfl) (fun _ _ _ h => h) (Or.inl ⟨by rfl, ?rffby30⟩) hHeld ?rffbr30
          case rffby30 => (intro w hSw; (try dsimp only at hSw); go_simp; (try with_reducible rfl))
          try simp only [Act.put, List.setIfInBounds_toArray, List.set_cons_zero, List.set_cons_succ]
          refine wpAnyH_done (by kernel_rfl) ?_ _
          clear hHeld
          go_wp2
          go_ret
          exact ⟨rfl, HK.out⟩
        | true =>
          obtain rfl : se = 0 := by have := HSE.out; simpa using this
          refine wp_region_held_drew (S := (fun w' => w'.cell? ⟨w.heap.size, 0, none⟩ = some (.slice a0 f.nv c0) ∧ w'.cell? ⟨w.heap.size, 1, none⟩ = some (.slice a1 f.np c1) ∧ w'.cell? ⟨w.heap.size, 2, none⟩ = some (.slice a2 f.nb c2))) (by kernel_rfl) ?rftbhSs (fun hHeld => ?_)
          case rftbhSs => exact ⟨l0, l1, l2⟩
          clear l0 l1 l2
          have Blx := kept (Bl.out.keep ((Keeps.refl _ []).drew) (by simp))
          have HKx := kept (HK.out.drew)
          clear Bl HK
          have Bl := Blx
          have HK := HKx
          clear Blx HKx
          generalize World.drew _ = X0 at *
          have l0 := Bl.out.cell 0
          have l1 := Bl.out.cell 1
          have l2 := Bl.out.cell 2
          simp at l0 l1 l2
          refine wpAnyH_take (i := 0) (oi := { dst := some 20, op := Op.load 26 (Operand.tmp 1), type := 26, pos := "law.go:30", after := #[], guard := none }) (v := ?rftbv0) rfl (by kernel_rfl) (by kernel_rfl) (by kernel_rfl) (fun _ _ _ h => h) (Or.inl ⟨by rfl, ?rftby0⟩) hHeld ?rftbr0
          case rftby0 => (intro w hSw; (try dsimp only at hSw); go_simp; (try with_reducible rfl))
          try simp only [Act.put, List.setIfInBounds_toArray, List.set_cons_zero, List.set_cons_succ]
          refine wpAnyH_take (i := 3) (oi := { dst := some 23, op := Op.move (Operand.tmp 4), type := 4, pos := "law.go:30", after := #[], guard := none }) (v := ?rftbv3) rfl (by kernel_rfl) (by kernel_rfl) (by kernel_rfl) (fun _ _ _ h => h) (Or.inl ⟨by rfl, ?rftby3⟩) hHeld ?rftbr3
          case rftby3 => (intro w hSw; (try dsimp only at hSw); go_simp; (try with_reducible rfl))
          try simp only [Act.put, List.setIfInBounds_toArray, List.set_cons_zero, List.set_cons_succ]
          refine wpAnyH_ready (rs := [1]) (by kernel_rfl) (by simp) ?_
          refine AllReadyH.cons (o := { dst := some 21, op := Op.call { callee := Callee.value (Operand.func 14), args := #[Operand.tmp 20], argTypes := #[26] }, type := 29, pos := "law.go:30", after := #[{ on := 0, ground := Ground.data }], guard := none }) rfl (fun K hK => ?_) AllReadyH.nil
          go_simp
          (with_reducible refine (CT2.out _ (HT.out.keep HK.out) (HF.out.keep HK.out)).mono ?_)
          rintro e wx ⟨rfl, k3⟩
          show K _ _
          clear hHeld
          clear l0 l1 l2
          have Blx := kept (Bl.out.keep k3 (by simp))
          have HKx := kept (HK.out.and_then k3)
          clear Bl HK
          have Bl := Blx
          have HK := HKx
          clear Blx HKx
          have l0 := Bl.out.cell 0
          have l1 := Bl.out.cell 1
          have l2 := Bl.out.cell 2
          simp at l0 l1 l2
          clear k3
          refine hK.out _ _ ?rftbhS1 (fun hHeld => ?_)
          case rftbhS1 => exact ⟨l0, l1, l2⟩
          clear hK K
          try simp only [Act.put, List.setIfInBounds_toArray, List.set_cons_zero, List.set_cons_succ]
          refine wpAnyH_take (i := 2) (oi := { dst := some 22, op := Op.binOp BinOp.eql 29 (Operand.tmp 21) (Operand.const (Value.int IntKind.i64 0)) 29, type := 4, pos := "law.go:30", after := #[{ on := 1, ground := Ground.data }], guard := none }) (v := ?rftbv2) rfl (by kernel_rfl) (by kernel_rfl) (by kernel_rfl) (fun _ _ _ h => h) (Or.inl ⟨by rfl, ?rftby2⟩) hHeld ?rftbr2
          case rftby2 => (intro w hSw; (try dsimp only at hSw); go_simp; (try with_reducible rfl))
          try simp only [Act.put, List.setIfInBounds_toArray, List.set_cons_zero, List.set_cons_succ]
          refine wpAnyH_take (i := 4) (oi := { dst := some 24, op := Op.binOp BinOp.eql 4 (Operand.tmp 22) (Operand.tmp 23) 4, type := 4, pos := "law.go:30", after := #[{ on := 2, ground := Ground.data }, { on := 3, ground := Ground.data }], guard := none }) (v := ?rftbv4) rfl (by kernel_rfl) (by kernel_rfl) (by kernel_rfl) (fun _ _ _ h => h) (Or.inl ⟨by rfl, ?rftby4⟩) hHeld ?rftbr4
          case rftby4 => (intro w hSw; (try dsimp only at hSw); go_simp; (try with_reducible rfl))
          try simp only [Act.put, List.setIfInBounds_toArray, List.set_cons_zero, List.set_cons_succ]
          refine wpAnyH_take (i := 5) (oi := { dst := some 25, op := Op.move (Operand.tmp 24), type := 4, pos := "law.go:30", after := #[{ on := 4, ground := Ground.data }, { on := 1, ground := Ground.chain }], guard := none }) (v := ?rftbv5) rfl (by kernel_rfl) (by kernel_rfl) (by kernel_rfl) (fun _ _ _ h => h) (Or.inl ⟨by rfl, ?rftby5⟩) hHeld ?rftbr5
          case rftby5 => (intro w hSw; (try dsimp only at hSw); go_simp; (try with_reducible rfl))
          try simp only [Act.put, List.setIfInBounds_toArray, List.set_cons_zero, List.set_cons_succ]
          refine wpAnyH_take (i := 6) (oi := { dst := some 26, op := Op.load 26 (Operand.tmp 1), type := 26, pos := "law.go:30", after := #[{ on := 5, ground := Ground.guard }], guard := some (5, true) }) (v := ?rftbv6) rfl (by kernel_rfl) (by kernel_rfl) (by kernel_rfl) (fun _ _ _ h => h) (Or.inl ⟨by rfl, ?rftby6⟩) hHeld ?rftbr6
          case rftby6 => (intro w hSw; (try dsimp only at hSw); go_simp; (try with_reducible rfl))
          try simp only [Act.put, List.setIfInBounds_toArray, List.set_cons_zero, List.set_cons_succ]
          refine wpAnyH_take (i := 9) (oi := { dst := some 29, op := Op.load 26 (Operand.tmp 1), type := 26, pos := "law.go:30", after := #[{ on := 5, ground := Ground.guard }], guard := some (5, true) }) (v := ?rftbv9) rfl (by kernel_rfl) (by kernel_rfl) (by kernel_rfl) (fun _ _ _ h => h) (Or.inl ⟨by rfl, ?rftby9⟩) hHeld ?rftbr9
          case rftby9 => (intro w hSw; (try dsimp only at hSw); go_simp; (try with_reducible rfl))
          try simp only [Act.put, List.setIfInBounds_toArray, List.set_cons_zero, List.set_cons_succ]
          refine wpAnyH_ready (rs := [7]) (by kernel_rfl) (by simp) ?_
          refine AllReadyH.cons (o := { dst := some 27, op := Op.call { callee := Callee.value (Operand.func 15), args := #[Operand.tmp 26], argTypes := #[26] }, type := 29, pos := "law.go:30", after := #[{ on := 6, ground := Ground.data }, { on := 5, ground := Ground.chain }, { on := 5, ground := Ground.guard }], guard := some (5, true) }) rfl (fun K hK => ?_) AllReadyH.nil
          go_simp
          (with_reducible refine (CS2.out _ (HT.out.keep HK.out) (HF.out.keep HK.out)).mono ?_)
          rintro e wx ⟨rfl, k3⟩
          show K _ _
          clear hHeld
          clear l0 l1 l2
          have Blx := kept (Bl.out.keep k3 (by simp))
          have HKx := kept (HK.out.and_then k3)
          clear Bl HK
          have Bl := Blx
          have HK := HKx
          clear Blx HKx
          have l0 := Bl.out.cell 0
          have l1 := Bl.out.cell 1
          have l2 := Bl.out.cell 2
          simp at l0 l1 l2
          clear k3
          refine hK.out _ _ ?rftbhS7 (fun hHeld => ?_)
          case rftbhS7 => exact ⟨l0, l1, l2⟩
          clear hK K
          try simp only [Act.put, List.setIfInBounds_toArray, List.set_cons_zero, List.set_cons_succ]
          refine wpAnyH_take (i := 8) (oi := { dst := some 28, op := Op.binOp BinOp.eql 29 (Operand.tmp 27) (Operand.const (Value.int IntKind.i64 0)) 29, type := 4, pos := "law.go:30", after := #[{ on := 7, ground := Ground.data }, { on := 5, ground := Ground.guard }], guard := some (5, true) }) (v := ?rftbv8) rfl (by kernel_rfl) (by kernel_rfl) (by kernel_rfl) (fun _ _ _ h => h) (Or.inl ⟨by rfl, ?rftby8⟩) hHeld ?rftbr8
          case rftby8 => (intro w hSw; (try dsimp only at hSw); go_simp; (try with_reducible rfl))
          try simp only [Act.put, List.setIfInBounds_toArray, List.set_cons_zero, List.set_cons_succ]
          refine wpAnyH_ready (rs := [10]) (by kernel_rfl) (by simp) ?_
          refine AllReadyH.cons (o := { dst := some 30, op := Op.call { callee := Callee.value (Operand.func 16), args := #[Operand.tmp 29], argTypes := #[26] }, type := 4, pos := "law.go:30", after := #[{ on := 9, ground := Ground.data }, { on := 7, ground := Ground.chain }, { on := 5, ground := Ground.guard }], guard := some (5, true) }) rfl (fun K hK => ?_) AllReadyH.nil
          go_simp
          (with_reducible refine (CSl2.out _ (HT.out.keep HK.out) (HF.out.keep HK.out)).mono ?_)
          rintro e wx ⟨rfl, k3⟩
          show K _ _
          clear hHeld
          clear l0 l1 l2
          have Blx := kept (Bl.out.keep k3 (by simp))
          have HKx := kept (HK.out.and_then k3)
          clear Bl HK
          have Bl := Blx
          have HK := HKx
          clear Blx HKx
          have l0 := Bl.out.cell 0
          have l1 := Bl.out.cell 1
          have l2 := Bl.out.cell 2
          simp at l0 l1 l2
          clear k3
          refine hK.out _ _ ?rftbhS10 (fun hHeld => ?_)
          case rftbhS10 => exact ⟨l0, l1, l2⟩
          clear hK K
          try simp only [Act.put, List.setIfInBounds_toArray, List.set_cons_zero, List.set_cons_succ]
          refine wpAnyH_take (i := 11) (oi := { dst := some 31, op := Op.binOp BinOp.eql 4 (Operand.tmp 28) (Operand.tmp 30) 4, type := 4, pos := "law.go:30", after := #[{ on := 8, ground := Ground.data }, { on := 10, ground := Ground.data }, { on := 5, ground := Ground.guard }], guard := some (5, true) }) (v := ?rftbv11) rfl (by kernel_rfl) (by kernel_rfl) (by kernel_rfl) (fun _ _ _ h => h) (Or.inl ⟨by rfl, ?rftby11⟩) hHeld ?rftbr11
          case rftby11 => (intro w hSw; (try dsimp only at hSw); go_simp; (try with_reducible rfl))
          try simp only [Act.put, List.setIfInBounds_toArray, List.set_cons_zero, List.set_cons_succ]
          refine wpAnyH_take (i := 12) (oi := { dst := some 32, op := Op.pick (Operand.tmp 25) (Operand.tmp 31) (Operand.const (Value.bool false)), type := 4, pos := "law.go:30", after := #[{ on := 5, ground := Ground.data }, { on := 11, ground := Ground.data }], guard := none }) (v := ?rftbv12) rfl (by kernel_rfl) (by kernel_rfl) (by kernel_rfl) (fun _ _ _ h => h) (Or.inl ⟨by rfl, ?rftby12⟩) hHeld ?rftbr12
          case rftby12 => (intro w hSw; (try dsimp only at hSw); go_simp; (try with_reducible rfl))
          try simp only [Act.put, List.setIfInBounds_toArray, List.set_cons_zero, List.set_cons_succ]
          refine wpAnyH_take (i := 13) (oi := { dst := some 33, op := Op.move (Operand.tmp 32), type := 4, pos := "law.go:30", after := #[{ on := 12, ground := Ground.data }, { on := 10, ground := Ground.chain }], guard := none }) (v := ?rftbv13) rfl (by kernel_rfl) (by kernel_rfl) (by kernel_rfl) (fun _ _ _ h => h) (Or.inl ⟨by rfl, ?rftby13⟩) hHeld ?rftbr13
          case rftby13 => (intro w hSw; (try dsimp only at hSw); go_simp; (try with_reducible rfl))
          try simp only [Act.put, List.setIfInBounds_toArray, List.set_cons_zero, List.set_cons_succ]
          refine wpAnyH_take (i := 14) (oi := { dst := some 34, op := Op.move (Operand.tmp 4), type := 4, pos := "law.go:30", after := #[{ on := 13, ground := Ground.guard }], guard := some (13, true) }) (v := ?rftbv14) rfl (by kernel_rfl) (by kernel_rfl) (by kernel_rfl) (fun _ _ _ h => h) (Or.inl ⟨by rfl, ?rftby14⟩) hHeld ?rftbr14
          case rftby14 => (intro w hSw; (try dsimp only at hSw); go_simp; (try with_reducible rfl))
          try simp only [Act.put, List.setIfInBounds_toArray, List.set_cons_zero, List.set_cons_succ]
          refine wpAnyH_take (i := 15) (oi := { dst := some 35, op := Op.move (Operand.tmp 34), type := 4, pos := "law.go:30", after := #[{ on := 14, ground := Ground.data }, { on := 13, ground := Ground.chain }, { on := 13, ground := Ground.guard }], guard := some (13, true) }) (v := ?rftbv15) rfl (by kernel_rfl) (by kernel_rfl) (by kernel_rfl) (fun _ _ _ h => h) (Or.inl ⟨by rfl, ?rftby15⟩) hHeld ?rftbr15
          case rftby15 => (intro w hSw; (try dsimp only at hSw); go_simp; (try with_reducible rfl))
          try simp only [Act.put, List.setIfInBounds_toArray, List.set_cons_zero, List.set_cons_succ]
          refine wpAnyH_take (i := 16) (oi := { dst := some 36, op := Op.load 26 (Operand.tmp 1), type := 26, pos := "law.go:30", after := #[{ on := 15, ground := Ground.guard }], guard := some (15, false) }) (v := ?rftbv16) rfl (by kernel_rfl) (by kernel_rfl) (by kernel_rfl) (fun _ _ _ h => h) (Or.inl ⟨by rfl, ?rftby16⟩) hHeld ?rftbr16
          case rftby16 => (intro w hSw; (try dsimp only at hSw); go_simp; (try with_reducible rfl))
          try simp only [Act.put, List.setIfInBounds_toArray, List.set_cons_zero, List.set_cons_succ]
          refine wpAnyH_ready (rs := [17]) (by kernel_rfl) (by simp) ?_
          refine AllReadyH.cons (o := { dst := some 37, op := Op.call { callee := Callee.value (Operand.func 14), args := #[Operand.tmp 36], argTypes := #[26] }, type := 29, pos := "law.go:30", after := #[{ on := 16, ground := Ground.data }, { on := 15, ground := Ground.chain }, { on := 15, ground := Ground.guard }], guard := some (15, false) }) rfl (fun K hK => ?_) AllReadyH.nil
          go_simp
          (with_reducible refine (CT2.out _ (HT.out.keep HK.out) (HF.out.keep HK.out)).mono ?_)
          rintro e wx ⟨rfl, k3⟩
          show K _ _
          clear hHeld
          clear l0 l1 l2
          have Blx := kept (Bl.out.keep k3 (by simp))
          have HKx := kept (HK.out.and_then k3)
          clear Bl HK
          have Bl := Blx
          have HK := HKx
          clear Blx HKx
          have l0 := Bl.out.cell 0
          have l1 := Bl.out.cell 1
          have l2 := Bl.out.cell 2
          simp at l0 l1 l2
          clear k3
          refine hK.out _ _ ?rftbhS17 (fun hHeld => ?_)
          case rftbhS17 => exact ⟨l0, l1, l2⟩
          clear hK K
          try simp only [Act.put, List.setIfInBounds_toArray, List.set_cons_zero, List.set_cons_succ]
          refine wpAnyH_take (i := 18) (oi := { dst := some 38, op := Op.binOp BinOp.eql 29 (Operand.tmp 37) (Operand.const (Value.int IntKind.i64 3)) 29, type := 4, pos := "law.go:30", after := #[{ on := 17, ground := Ground.data }, { on := 15, ground := Ground.guard }], guard := some (15, false) }) (v := ?rftbv18) rfl (by kernel_rfl) (by kernel_rfl) (by kernel_rfl) (fun _ _ _ h => h) (Or.inl ⟨by rfl, ?rftby18⟩) hHeld ?rftbr18
          case rftby18 => (intro w hSw; (try dsimp only at hSw); go_simp; (try with_reducible rfl))
          try simp only [Act.put, List.setIfInBounds_toArray, List.set_cons_zero, List.set_cons_succ]
          refine wpAnyH_take (i := 19) (oi := { dst := some 39, op := Op.pick (Operand.tmp 35) (Operand.const (Value.bool true)) (Operand.tmp 38), type := 4, pos := "law.go:30", after := #[{ on := 15, ground := Ground.data }, { on := 18, ground := Ground.data }, { on := 13, ground := Ground.guard }], guard := some (13, true) }) (v := ?rftbv19) rfl (by kernel_rfl) (by kernel_rfl) (by kernel_rfl) (fun _ _ _ h => h) (Or.inl ⟨by rfl, ?rftby19⟩) hHeld ?rftbr19
          case rftby19 => (intro w hSw; (try dsimp only at hSw); go_simp; (try with_reducible rfl))
          try simp only [Act.put, List.setIfInBounds_toArray, List.set_cons_zero, List.set_cons_succ]
          refine wpAnyH_take (i := 20) (oi := { dst := some 40, op := Op.pick (Operand.tmp 33) (Operand.tmp 39) (Operand.const (Value.bool false)), type := 4, pos := "law.go:30", after := #[{ on := 13, ground := Ground.data }, { on := 19, ground := Ground.data }], guard := none }) (v := ?rftbv20) rfl (by kernel_rfl) (by kernel_rfl) (by kernel_rfl) (fun _ _ _ h => h) (Or.inl ⟨by rfl, ?rftby20⟩) hHeld ?rftbr20
          case rftby20 => (intro w hSw; (try dsimp only at hSw); go_simp; (try with_reducible rfl))
          try simp only [Act.put, List.setIfInBounds_toArray, List.set_cons_zero, List.set_cons_succ]
          refine wpAnyH_take (i := 21) (oi := { dst := some 41, op := Op.move (Operand.tmp 40), type := 4, pos := "law.go:30", after := #[{ on := 20, ground := Ground.data }, { on := 17, ground := Ground.chain }], guard := none }) (v := ?rftbv21) rfl (by kernel_rfl) (by kernel_rfl) (by kernel_rfl) (fun _ _ _ h => h) (Or.inl ⟨by rfl, ?rftby21⟩) hHeld ?rftbr21
          case rftby21 => (intro w hSw; (try dsimp only at hSw); go_simp; (try with_reducible rfl))
          try simp only [Act.put, List.setIfInBounds_toArray, List.set_cons_zero, List.set_cons_succ]
          refine wpAnyH_take (i := 22) (oi := { dst := some 42, op := Op.load 26 (Operand.tmp 1), type := 26, pos := "law.go:30", after := #[{ on := 21, ground := Ground.guard }], guard := some (21, true) }) (v := ?rftbv22) rfl (by kernel_rfl) (by kernel_rfl) (by kernel_rfl) (fun _ _ _ h => h) (Or.inl ⟨by rfl, ?rftby22⟩) hHeld ?rftbr22
          case rftby22 => (intro w hSw; (try dsimp only at hSw); go_simp; (try with_reducible rfl))
          try simp only [Act.put, List.setIfInBounds_toArray, List.set_cons_zero, List.set_cons_succ]
          refine wpAnyH_ready (rs := [23]) (by kernel_rfl) (by simp) ?_
          refine AllReadyH.cons (o := { dst := some 43, op := Op.call { callee := Callee.value (Operand.func 16), args := #[Operand.tmp 42], argTypes := #[26] }, type := 4, pos := "law.go:30", after := #[{ on := 22, ground := Ground.data }, { on := 21, ground := Ground.chain }, { on := 21, ground := Ground.guard }], guard := some (21, true) }) rfl (fun K hK => ?_) AllReadyH.nil
          go_simp
          (with_reducible refine (CSl2.out _ (HT.out.keep HK.out) (HF.out.keep HK.out)).mono ?_)
          rintro e wx ⟨rfl, k3⟩
          show K _ _
          clear hHeld
          clear l0 l1 l2
          have Blx := kept (Bl.out.keep k3 (by simp))
          have HKx := kept (HK.out.and_then k3)
          clear Bl HK
          have Bl := Blx
          have HK := HKx
          clear Blx HKx
          have l0 := Bl.out.cell 0
          have l1 := Bl.out.cell 1
          have l2 := Bl.out.cell 2
          simp at l0 l1 l2
          clear k3
          refine hK.out _ _ ?rftbhS23 (fun hHeld => ?_)
          case rftbhS23 => exact ⟨l0, l1, l2⟩
          clear hK K
          try simp only [Act.put, List.setIfInBounds_toArray, List.set_cons_zero, List.set_cons_succ]
          refine wpAnyH_take (i := 24) (oi := { dst := some 44, op := Op.move (Operand.tmp 43), type := 4, pos := "law.go:30", after := #[{ on := 23, ground := Ground.data }, { on := 23, ground := Ground.chain }, { on := 21, ground := Ground.guard }], guard := some (21, true) }) (v := ?rftbv24) rfl (by kernel_rfl) (by kernel_rfl) (by kernel_rfl) (fun _ _ _ h => h) (Or.inl ⟨by rfl, ?rftby24⟩) hHeld ?rftbr24
          case rftby24 => (intro w hSw; (try dsimp only at hSw); go_simp; (try with_reducible rfl))
          try simp only [Act.put, List.setIfInBounds_toArray, List.set_cons_zero, List.set_cons_succ]
          refine wpAnyH_take (i := 25) (oi := { dst := some 45, op := Op.load 26 (Operand.tmp 1), type := 26, pos := "law.go:30", after := #[{ on := 24, ground := Ground.guard }], guard := some (24, false) }) (v := undef) rfl (by kernel_rfl) (by kernel_rfl) (by kernel_rfl) (fun _ _ _ h => h) (Or.inr ⟨by rfl, rfl⟩) hHeld ?_
          try simp only [Act.put, List.setIfInBounds_toArray, List.set_cons_zero, List.set_cons_succ]
          refine wpAnyH_take (i := 26) (oi := { dst := some 46, op := Op.call { callee := Callee.value (Operand.func 15), args := #[Operand.tmp 45], argTypes := #[26] }, type := 29, pos := "law.go:30", after := #[{ on := 25, ground := Ground.data }, { on := 24, ground := Ground.chain }, { on := 24, ground := Ground.guard }], guard := some (24, false) }) (v := undef) rfl (by kernel_rfl) (by kernel_rfl) (by kernel_rfl) (fun _ _ _ h => h) (Or.inr ⟨by rfl, rfl⟩) hHeld ?_
          try simp only [Act.put, List.setIfInBounds_toArray, List.set_cons_zero, List.set_cons_succ]
          refine wpAnyH_take (i := 27) (oi := { dst := some 47, op := Op.binOp BinOp.eql 29 (Operand.tmp 46) (Operand.const (Value.int IntKind.i64 3)) 29, type := 4, pos := "law.go:30", after := #[{ on := 26, ground := Ground.data }, { on := 24, ground := Ground.guard }], guard := some (24, false) }) (v := undef) rfl (by kernel_rfl) (by kernel_rfl) (by kernel_rfl) (fun _ _ _ h => h) (Or.inr ⟨by rfl, rfl⟩) hHeld ?_
          try simp only [Act.put, List.setIfInBounds_toArray, List.set_cons_zero, List.set_cons_succ]
          refine wpAnyH_take (i := 28) (oi := { dst := some 48, op := Op.pick (Operand.tmp 44) (Operand.const (Value.bool true)) (Operand.tmp 47), type := 4, pos := "law.go:30", after := #[{ on := 24, ground := Ground.data }, { on := 27, ground := Ground.data }, { on := 21, ground := Ground.guard }], guard := some (21, true) }) (v := ?rftbv28) rfl (by kernel_rfl) (by kernel_rfl) (by kernel_rfl) (fun _ _ _ h => h) (Or.inl ⟨by rfl, ?rftby28⟩) hHeld ?rftbr28
          case rftby28 => (intro w hSw; (try dsimp only at hSw); go_simp; (try with_reducible rfl))
          try simp only [Act.put, List.setIfInBounds_toArray, List.set_cons_zero, List.set_cons_succ]
          refine wpAnyH_take (i := 29) (oi := { dst := some 49, op := Op.pick (Operand.tmp 41) (Operand.tmp 48) (Operand.const (Value.bool false)), type := 4, pos := "law.go:30", after := #[{ on := 21, ground := Ground.data }, { on := 28, ground := Ground.data }], guard := none }) (v := ?rftbv29) rfl (by kernel_rfl) (by kernel_rfl) (by kernel_rfl) (fun _ _ _ h => h) (Or.inl ⟨by rfl, ?rftby29⟩) hHeld ?rftbr29
          case rftby29 => (intro w hSw; (try dsimp only at hSw); go_simp; (try with_reducible rfl))
          try simp only [Act.put, List.setIfInBounds_toArray, List.set_cons_zero, List.set_cons_succ]
          refine wpAnyH_take (i := 30) (oi := { dst := some 2, op := Op.assign (Operand.tmp 49), type := 4, pos := "law.go:30", after := #[{ on := 29, ground := Ground.data }, { on := 26, ground := Ground.chain }, { on := 0, ground := Ground.phase }, { on := 1, ground := Ground.phase }, { on := 2, ground := Ground.phase }, { on := 3, ground := Ground.phase }, { on := 4, ground := Ground.phase }, { on := 5, ground := Ground.phase }, { on := 6, ground := Ground.phase }, { on := 7, ground := Ground.phase }, { on := 8, ground := Ground.phase }, { on := 9, ground := Ground.phase }, { on := 10, ground := Ground.phase }, { on := 11, ground := Ground.phase }, { on := 12, ground := Ground.phase }, { on := 13, ground := Ground.phase }, { on := 14, ground := Ground.phase }, { on := 15, ground := Ground.phase }, { on := 16, ground := Ground.phase }, { on := 17, ground := Ground.phase }, { on := 18, ground := Ground.phase }, { on := 19, ground := Ground.phase }, { on := 20, ground := Ground.phase }, { on := 21, ground := Ground.phase }, { on := 22, ground := Ground.phase }, { on := 23, ground := Ground.phase }, { on := 24, ground := Ground.phase }, { on := 25, ground := Ground.phase }, { on := 26, ground := Ground.phase }, { on := 27, ground := Ground.phase }, { on := 28, ground := Ground.phase }, { on := 29, ground := Ground.phase }], guard := none }) (v := ?rftbv30) rfl (by kernel_rfl) (by kernel_rfl) (by kernel_rfl) (fun _ _ _ h => h) (Or.inl ⟨by rfl, ?rftby30⟩) hHeld ?rftbr30
          case rftby30 => (intro w hSw; (try dsimp only at hSw); go_simp; (try with_reducible rfl))
          try simp only [Act.put, List.setIfInBounds_toArray, List.set_cons_zero, List.set_cons_succ]
          refine wpAnyH_done (by kernel_rfl) ?_ _
          clear hHeld
          go_wp2
          go_ret
          exact ⟨rfl, HK.out⟩
      | true =>
        obtain rfl : te = 0 := by have := HTE.out; simpa using this
        go_wp2_with (first | (go_at_call 12; refine (CSh2.out _ (HT.out.keep HK.out) (HF.out.keep HK.out)).mono ?_; rintro e w5 ⟨rfl, k3⟩; clear l0 l1 l2; have Blx := kept (Bl.out.keep k3 (by simp)); have HKx := kept (HK.out.and_then k3); clear Bl HK; have Bl := Blx; have HK := HKx; clear Blx HKx; have l0 := Bl.out.cell 0; have l1 := Bl.out.cell 1; have l2 := Bl.out.cell 2; simp at l0 l1 l2; clear k3) | (go_at_call 13; refine (CRT3.out _ (HF.out.keep HK.out)).mono ?_; rintro e w6 ⟨rfl, k3⟩; clear l0 l1 l2; have Blx := kept (Bl.out.keep k3 (by simp)); have HKx := kept (HK.out.and_then k3); clear Bl HK; have Bl := Blx; have HK := HKx; clear Blx HKx; have l0 := Bl.out.cell 0; have l1 := Bl.out.cell 1; have l2 := Bl.out.cell 2; simp at l0 l1 l2; clear k3) | fail)
        cases BB with
        | false =>
          obtain rfl : se = 3 := by have := HSE.out; simpa using this
          refine wp_region_held_drew (S := (fun w' => w'.cell? ⟨w.heap.size, 0, none⟩ = some (.slice a0 f.nv c0) ∧ w'.cell? ⟨w.heap.size, 1, none⟩ = some (.slice a1 f.np c1) ∧ w'.cell? ⟨w.heap.size, 2, none⟩ = some (.slice a2 f.nb c2))) (by kernel_rfl) ?rtfchSs (fun hHeld => ?_)
          case rtfchSs => exact ⟨l0, l1, l2⟩
          clear l0 l1 l2
          have Blx := kept (Bl.out.keep ((Keeps.refl _ []).drew) (by simp))
          have HKx := kept (HK.out.drew)
          clear Bl HK
          have Bl := Blx
          have HK := HKx
          clear Blx HKx
          generalize World.drew _ = X0 at *
          have l0 := Bl.out.cell 0
          have l1 := Bl.out.cell 1
          have l2 := Bl.out.cell 2
          simp at l0 l1 l2
          refine wpAnyH_take (i := 0) (oi := { dst := some 20, op := Op.load 26 (Operand.tmp 1), type := 26, pos := "law.go:30", after := #[], guard := none }) (v := ?rtfcv0) rfl (by kernel_rfl) (by kernel_rfl) (by kernel_rfl) (fun _ _ _ h => h) (Or.inl ⟨by rfl, ?rtfcy0⟩) hHeld ?rtfcr0
          case rtfcy0 => (intro w hSw; (try dsimp only at hSw); go_simp; (try with_reducible rfl))
          try simp only [Act.put, List.setIfInBounds_toArray, List.set_cons_zero, List.set_cons_succ]
          refine wpAnyH_take (i := 3) (oi := { dst := some 23, op := Op.move (Operand.tmp 4), type := 4, pos := "law.go:30", after := #[], guard := none }) (v := ?rtfcv3) rfl (by kernel_rfl) (by kernel_rfl) (by kernel_rfl) (fun _ _ _ h => h) (Or.inl ⟨by rfl, ?rtfcy3⟩) hHeld ?rtfcr3
          case rtfcy3 => (intro w hSw; (try dsimp only at hSw); go_simp; (try with_reducible rfl))
          try simp only [Act.put, List.setIfInBounds_toArray, List.set_cons_zero, List.set_cons_succ]
          refine wpAnyH_ready (rs := [1]) (by kernel_rfl) (by simp) ?_
          refine AllReadyH.cons (o := { dst := some 21, op := Op.call { callee := Callee.value (Operand.func 14), args := #[Operand.tmp 20], argTypes := #[26] }, type := 29, pos := "law.go:30", after := #[{ on := 0, ground := Ground.data }], guard := none }) rfl (fun K hK => ?_) AllReadyH.nil
          go_simp
          (with_reducible refine (CT2.out _ (HT.out.keep HK.out) (HF.out.keep HK.out)).mono ?_)
          rintro e wx ⟨rfl, k3⟩
          show K _ _
          clear hHeld
          clear l0 l1 l2
          have Blx := kept (Bl.out.keep k3 (by simp))
          have HKx := kept (HK.out.and_then k3)
          clear Bl HK
          have Bl := Blx
          have HK := HKx
          clear Blx HKx
          have l0 := Bl.out.cell 0
          have l1 := Bl.out.cell 1
          have l2 := Bl.out.cell 2
          simp at l0 l1 l2
          clear k3
          refine hK.out _ _ ?rtfchS1 (fun hHeld => ?_)
          case rtfchS1 => exact ⟨l0, l1, l2⟩
          clear hK K
          try simp only [Act.put, List.setIfInBounds_toArray, List.set_cons_zero, List.set_cons_succ]
          refine wpAnyH_take (i := 2) (oi := { dst := some 22, op := Op.binOp BinOp.eql 29 (Operand.tmp 21) (Operand.const (Value.int IntKind.i64 0)) 29, type := 4, pos := "law.go:30", after := #[{ on := 1, ground := Ground.data }], guard := none }) (v := ?rtfcv2) rfl (by kernel_rfl) (by kernel_rfl) (by kernel_rfl) (fun _ _ _ h => h) (Or.inl ⟨by rfl, ?rtfcy2⟩) hHeld ?rtfcr2
          case rtfcy2 => (intro w hSw; (try dsimp only at hSw); go_simp; (try with_reducible rfl))
          try simp only [Act.put, List.setIfInBounds_toArray, List.set_cons_zero, List.set_cons_succ]
          refine wpAnyH_take (i := 4) (oi := { dst := some 24, op := Op.binOp BinOp.eql 4 (Operand.tmp 22) (Operand.tmp 23) 4, type := 4, pos := "law.go:30", after := #[{ on := 2, ground := Ground.data }, { on := 3, ground := Ground.data }], guard := none }) (v := ?rtfcv4) rfl (by kernel_rfl) (by kernel_rfl) (by kernel_rfl) (fun _ _ _ h => h) (Or.inl ⟨by rfl, ?rtfcy4⟩) hHeld ?rtfcr4
          case rtfcy4 => (intro w hSw; (try dsimp only at hSw); go_simp; (try with_reducible rfl))
          try simp only [Act.put, List.setIfInBounds_toArray, List.set_cons_zero, List.set_cons_succ]
          refine wpAnyH_take (i := 5) (oi := { dst := some 25, op := Op.move (Operand.tmp 24), type := 4, pos := "law.go:30", after := #[{ on := 4, ground := Ground.data }, { on := 1, ground := Ground.chain }], guard := none }) (v := ?rtfcv5) rfl (by kernel_rfl) (by kernel_rfl) (by kernel_rfl) (fun _ _ _ h => h) (Or.inl ⟨by rfl, ?rtfcy5⟩) hHeld ?rtfcr5
          case rtfcy5 => (intro w hSw; (try dsimp only at hSw); go_simp; (try with_reducible rfl))
          try simp only [Act.put, List.setIfInBounds_toArray, List.set_cons_zero, List.set_cons_succ]
          refine wpAnyH_take (i := 6) (oi := { dst := some 26, op := Op.load 26 (Operand.tmp 1), type := 26, pos := "law.go:30", after := #[{ on := 5, ground := Ground.guard }], guard := some (5, true) }) (v := ?rtfcv6) rfl (by kernel_rfl) (by kernel_rfl) (by kernel_rfl) (fun _ _ _ h => h) (Or.inl ⟨by rfl, ?rtfcy6⟩) hHeld ?rtfcr6
          case rtfcy6 => (intro w hSw; (try dsimp only at hSw); go_simp; (try with_reducible rfl))
          try simp only [Act.put, List.setIfInBounds_toArray, List.set_cons_zero, List.set_cons_succ]
          refine wpAnyH_take (i := 9) (oi := { dst := some 29, op := Op.load 26 (Operand.tmp 1), type := 26, pos := "law.go:30", after := #[{ on := 5, ground := Ground.guard }], guard := some (5, true) }) (v := ?rtfcv9) rfl (by kernel_rfl) (by kernel_rfl) (by kernel_rfl) (fun _ _ _ h => h) (Or.inl ⟨by rfl, ?rtfcy9⟩) hHeld ?rtfcr9
          case rtfcy9 => (intro w hSw; (try dsimp only at hSw); go_simp; (try with_reducible rfl))
          try simp only [Act.put, List.setIfInBounds_toArray, List.set_cons_zero, List.set_cons_succ]
          refine wpAnyH_ready (rs := [7]) (by kernel_rfl) (by simp) ?_
          refine AllReadyH.cons (o := { dst := some 27, op := Op.call { callee := Callee.value (Operand.func 15), args := #[Operand.tmp 26], argTypes := #[26] }, type := 29, pos := "law.go:30", after := #[{ on := 6, ground := Ground.data }, { on := 5, ground := Ground.chain }, { on := 5, ground := Ground.guard }], guard := some (5, true) }) rfl (fun K hK => ?_) AllReadyH.nil
          go_simp
          (with_reducible refine (CS2.out _ (HT.out.keep HK.out) (HF.out.keep HK.out)).mono ?_)
          rintro e wx ⟨rfl, k3⟩
          show K _ _
          clear hHeld
          clear l0 l1 l2
          have Blx := kept (Bl.out.keep k3 (by simp))
          have HKx := kept (HK.out.and_then k3)
          clear Bl HK
          have Bl := Blx
          have HK := HKx
          clear Blx HKx
          have l0 := Bl.out.cell 0
          have l1 := Bl.out.cell 1
          have l2 := Bl.out.cell 2
          simp at l0 l1 l2
          clear k3
          refine hK.out _ _ ?rtfchS7 (fun hHeld => ?_)
          case rtfchS7 => exact ⟨l0, l1, l2⟩
          clear hK K
          try simp only [Act.put, List.setIfInBounds_toArray, List.set_cons_zero, List.set_cons_succ]
          refine wpAnyH_take (i := 8) (oi := { dst := some 28, op := Op.binOp BinOp.eql 29 (Operand.tmp 27) (Operand.const (Value.int IntKind.i64 0)) 29, type := 4, pos := "law.go:30", after := #[{ on := 7, ground := Ground.data }, { on := 5, ground := Ground.guard }], guard := some (5, true) }) (v := ?rtfcv8) rfl (by kernel_rfl) (by kernel_rfl) (by kernel_rfl) (fun _ _ _ h => h) (Or.inl ⟨by rfl, ?rtfcy8⟩) hHeld ?rtfcr8
          case rtfcy8 => (intro w hSw; (try dsimp only at hSw); go_simp; (try with_reducible rfl))
          try simp only [Act.put, List.setIfInBounds_toArray, List.set_cons_zero, List.set_cons_succ]
          refine wpAnyH_ready (rs := [10]) (by kernel_rfl) (by simp) ?_
          refine AllReadyH.cons (o := { dst := some 30, op := Op.call { callee := Callee.value (Operand.func 16), args := #[Operand.tmp 29], argTypes := #[26] }, type := 4, pos := "law.go:30", after := #[{ on := 9, ground := Ground.data }, { on := 7, ground := Ground.chain }, { on := 5, ground := Ground.guard }], guard := some (5, true) }) rfl (fun K hK => ?_) AllReadyH.nil
          go_simp
          (with_reducible refine (CSl2.out _ (HT.out.keep HK.out) (HF.out.keep HK.out)).mono ?_)
          rintro e wx ⟨rfl, k3⟩
          show K _ _
          clear hHeld
          clear l0 l1 l2
          have Blx := kept (Bl.out.keep k3 (by simp))
          have HKx := kept (HK.out.and_then k3)
          clear Bl HK
          have Bl := Blx
          have HK := HKx
          clear Blx HKx
          have l0 := Bl.out.cell 0
          have l1 := Bl.out.cell 1
          have l2 := Bl.out.cell 2
          simp at l0 l1 l2
          clear k3
          refine hK.out _ _ ?rtfchS10 (fun hHeld => ?_)
          case rtfchS10 => exact ⟨l0, l1, l2⟩
          clear hK K
          try simp only [Act.put, List.setIfInBounds_toArray, List.set_cons_zero, List.set_cons_succ]
          refine wpAnyH_take (i := 11) (oi := { dst := some 31, op := Op.binOp BinOp.eql 4 (Operand.tmp 28) (Operand.tmp 30) 4, type := 4, pos := "law.go:30", after := #[{ on := 8, ground := Ground.data }, { on := 10, ground := Ground.data }, { on := 5, ground := Ground.guard }], guard := some (5, true) }) (v := ?rtfcv11) rfl (by kernel_rfl) (by kernel_rfl) (by kernel_rfl) (fun _ _ _ h => h) (Or.inl ⟨by rfl, ?rtfcy11⟩) hHeld ?rtfcr11
          case rtfcy11 => (intro w hSw; (try dsimp only at hSw); go_simp; (try with_reducible rfl))
          try simp only [Act.put, List.setIfInBounds_toArray, List.set_cons_zero, List.set_cons_succ]
          refine wpAnyH_take (i := 12) (oi := { dst := some 32, op := Op.pick (Operand.tmp 25) (Operand.tmp 31) (Operand.const (Value.bool false)), type := 4, pos := "law.go:30", after := #[{ on := 5, ground := Ground.data }, { on := 11, ground := Ground.data }], guard := none }) (v := ?rtfcv12) rfl (by kernel_rfl) (by kernel_rfl) (by kernel_rfl) (fun _ _ _ h => h) (Or.inl ⟨by rfl, ?rtfcy12⟩) hHeld ?rtfcr12
          case rtfcy12 => (intro w hSw; (try dsimp only at hSw); go_simp; (try with_reducible rfl))
          try simp only [Act.put, List.setIfInBounds_toArray, List.set_cons_zero, List.set_cons_succ]
          refine wpAnyH_take (i := 13) (oi := { dst := some 33, op := Op.move (Operand.tmp 32), type := 4, pos := "law.go:30", after := #[{ on := 12, ground := Ground.data }, { on := 10, ground := Ground.chain }], guard := none }) (v := ?rtfcv13) rfl (by kernel_rfl) (by kernel_rfl) (by kernel_rfl) (fun _ _ _ h => h) (Or.inl ⟨by rfl, ?rtfcy13⟩) hHeld ?rtfcr13
          case rtfcy13 => (intro w hSw; (try dsimp only at hSw); go_simp; (try with_reducible rfl))
          try simp only [Act.put, List.setIfInBounds_toArray, List.set_cons_zero, List.set_cons_succ]
          refine wpAnyH_take (i := 14) (oi := { dst := some 34, op := Op.move (Operand.tmp 4), type := 4, pos := "law.go:30", after := #[{ on := 13, ground := Ground.guard }], guard := some (13, true) }) (v := ?rtfcv14) rfl (by kernel_rfl) (by kernel_rfl) (by kernel_rfl) (fun _ _ _ h => h) (Or.inl ⟨by rfl, ?rtfcy14⟩) hHeld ?rtfcr14
          case rtfcy14 => (intro w hSw; (try dsimp only at hSw); go_simp; (try with_reducible rfl))
          try simp only [Act.put, List.setIfInBounds_toArray, List.set_cons_zero, List.set_cons_succ]
          refine wpAnyH_take (i := 15) (oi := { dst := some 35, op := Op.move (Operand.tmp 34), type := 4, pos := "law.go:30", after := #[{ on := 14, ground := Ground.data }, { on := 13, ground := Ground.chain }, { on := 13, ground := Ground.guard }], guard := some (13, true) }) (v := ?rtfcv15) rfl (by kernel_rfl) (by kernel_rfl) (by kernel_rfl) (fun _ _ _ h => h) (Or.inl ⟨by rfl, ?rtfcy15⟩) hHeld ?rtfcr15
          case rtfcy15 => (intro w hSw; (try dsimp only at hSw); go_simp; (try with_reducible rfl))
          try simp only [Act.put, List.setIfInBounds_toArray, List.set_cons_zero, List.set_cons_succ]
          refine wpAnyH_take (i := 16) (oi := { dst := some 36, op := Op.load 26 (Operand.tmp 1), type := 26, pos := "law.go:30", after := #[{ on := 15, ground := Ground.guard }], guard := some (15, false) }) (v := undef) rfl (by kernel_rfl) (by kernel_rfl) (by kernel_rfl) (fun _ _ _ h => h) (Or.inr ⟨by rfl, rfl⟩) hHeld ?_
          try simp only [Act.put, List.setIfInBounds_toArray, List.set_cons_zero, List.set_cons_succ]
          refine wpAnyH_take (i := 17) (oi := { dst := some 37, op := Op.call { callee := Callee.value (Operand.func 14), args := #[Operand.tmp 36], argTypes := #[26] }, type := 29, pos := "law.go:30", after := #[{ on := 16, ground := Ground.data }, { on := 15, ground := Ground.chain }, { on := 15, ground := Ground.guard }], guard := some (15, false) }) (v := undef) rfl (by kernel_rfl) (by kernel_rfl) (by kernel_rfl) (fun _ _ _ h => h) (Or.inr ⟨by rfl, rfl⟩) hHeld ?_
          try simp only [Act.put, List.setIfInBounds_toArray, List.set_cons_zero, List.set_cons_succ]
          refine wpAnyH_take (i := 18) (oi := { dst := some 38, op := Op.binOp BinOp.eql 29 (Operand.tmp 37) (Operand.const (Value.int IntKind.i64 3)) 29, type := 4, pos := "law.go:30", after := #[{ on := 17, ground := Ground.data }, { on := 15, ground := Ground.guard }], guard := some (15, false) }) (v := undef) rfl (by kernel_rfl) (by kernel_rfl) (by kernel_rfl) (fun _ _ _ h => h) (Or.inr ⟨by rfl, rfl⟩) hHeld ?_
          try simp only [Act.put, List.setIfInBounds_toArray, List.set_cons_zero, List.set_cons_succ]
          refine wpAnyH_take (i := 19) (oi := { dst := some 39, op := Op.pick (Operand.tmp 35) (Operand.const (Value.bool true)) (Operand.tmp 38), type := 4, pos := "law.go:30", after := #[{ on := 15, ground := Ground.data }, { on := 18, ground := Ground.data }, { on := 13, ground := Ground.guard }], guard := some (13, true) }) (v := ?rtfcv19) rfl (by kernel_rfl) (by kernel_rfl) (by kernel_rfl) (fun _ _ _ h => h) (Or.inl ⟨by rfl, ?rtfcy19⟩) hHeld ?rtfcr19
          case rtfcy19 => (intro w hSw; (try dsimp only at hSw); go_simp; (try with_reducible rfl))
          try simp only [Act.put, List.setIfInBounds_toArray, List.set_cons_zero, List.set_cons_succ]
          refine wpAnyH_take (i := 20) (oi := { dst := some 40, op := Op.pick (Operand.tmp 33) (Operand.tmp 39) (Operand.const (Value.bool false)), type := 4, pos := "law.go:30", after := #[{ on := 13, ground := Ground.data }, { on := 19, ground := Ground.data }], guard := none }) (v := ?rtfcv20) rfl (by kernel_rfl) (by kernel_rfl) (by kernel_rfl) (fun _ _ _ h => h) (Or.inl ⟨by rfl, ?rtfcy20⟩) hHeld ?rtfcr20
          case rtfcy20 => (intro w hSw; (try dsimp only at hSw); go_simp; (try with_reducible rfl))
          try simp only [Act.put, List.setIfInBounds_toArray, List.set_cons_zero, List.set_cons_succ]
          refine wpAnyH_take (i := 21) (oi := { dst := some 41, op := Op.move (Operand.tmp 40), type := 4, pos := "law.go:30", after := #[{ on := 20, ground := Ground.data }, { on := 17, ground := Ground.chain }], guard := none }) (v := ?rtfcv21) rfl (by kernel_rfl) (by kernel_rfl) (by kernel_rfl) (fun _ _ _ h => h) (Or.inl ⟨by rfl, ?rtfcy21⟩) hHeld ?rtfcr21
          case rtfcy21 => (intro w hSw; (try dsimp only at hSw); go_simp; (try with_reducible rfl))
          try simp only [Act.put, List.setIfInBounds_toArray, List.set_cons_zero, List.set_cons_succ]
          refine wpAnyH_take (i := 22) (oi := { dst := some 42, op := Op.load 26 (Operand.tmp 1), type := 26, pos := "law.go:30", after := #[{ on := 21, ground := Ground.guard }], guard := some (21, true) }) (v := ?rtfcv22) rfl (by kernel_rfl) (by kernel_rfl) (by kernel_rfl) (fun _ _ _ h => h) (Or.inl ⟨by rfl, ?rtfcy22⟩) hHeld ?rtfcr22
          case rtfcy22 => (intro w hSw; (try dsimp only at hSw); go_simp; (try with_reducible rfl))
          try simp only [Act.put, List.setIfInBounds_toArray, List.set_cons_zero, List.set_cons_succ]
          refine wpAnyH_ready (rs := [23]) (by kernel_rfl) (by simp) ?_
          refine AllReadyH.cons (o := { dst := some 43, op := Op.call { callee := Callee.value (Operand.func 16), args := #[Operand.tmp 42], argTypes := #[26] }, type := 4, pos := "law.go:30", after := #[{ on := 22, ground := Ground.data }, { on := 21, ground := Ground.chain }, { on := 21, ground := Ground.guard }], guard := some (21, true) }) rfl (fun K hK => ?_) AllReadyH.nil
          go_simp
          (with_reducible refine (CSl2.out _ (HT.out.keep HK.out) (HF.out.keep HK.out)).mono ?_)
          rintro e wx ⟨rfl, k3⟩
          show K _ _
          clear hHeld
          clear l0 l1 l2
          have Blx := kept (Bl.out.keep k3 (by simp))
          have HKx := kept (HK.out.and_then k3)
          clear Bl HK
          have Bl := Blx
          have HK := HKx
          clear Blx HKx
          have l0 := Bl.out.cell 0
          have l1 := Bl.out.cell 1
          have l2 := Bl.out.cell 2
          simp at l0 l1 l2
          clear k3
          refine hK.out _ _ ?rtfchS23 (fun hHeld => ?_)
          case rtfchS23 => exact ⟨l0, l1, l2⟩
          clear hK K
          try simp only [Act.put, List.setIfInBounds_toArray, List.set_cons_zero, List.set_cons_succ]
          refine wpAnyH_take (i := 24) (oi := { dst := some 44, op := Op.move (Operand.tmp 43), type := 4, pos := "law.go:30", after := #[{ on := 23, ground := Ground.data }, { on := 23, ground := Ground.chain }, { on := 21, ground := Ground.guard }], guard := some (21, true) }) (v := ?rtfcv24) rfl (by kernel_rfl) (by kernel_rfl) (by kernel_rfl) (fun _ _ _ h => h) (Or.inl ⟨by rfl, ?rtfcy24⟩) hHeld ?rtfcr24
          case rtfcy24 => (intro w hSw; (try dsimp only at hSw); go_simp; (try with_reducible rfl))
          try simp only [Act.put, List.setIfInBounds_toArray, List.set_cons_zero, List.set_cons_succ]
          refine wpAnyH_take (i := 25) (oi := { dst := some 45, op := Op.load 26 (Operand.tmp 1), type := 26, pos := "law.go:30", after := #[{ on := 24, ground := Ground.guard }], guard := some (24, false) }) (v := ?rtfcv25) rfl (by kernel_rfl) (by kernel_rfl) (by kernel_rfl) (fun _ _ _ h => h) (Or.inl ⟨by rfl, ?rtfcy25⟩) hHeld ?rtfcr25
          case rtfcy25 => (intro w hSw; (try dsimp only at hSw); go_simp; (try with_reducible rfl))
          try simp only [Act.put, List.setIfInBounds_toArray, List.set_cons_zero, List.set_cons_succ]
          refine wpAnyH_ready (rs := [26]) (by kernel_rfl) (by simp) ?_
          refine AllReadyH.cons (o := { dst := some 46, op := Op.call { callee := Callee.value (Operand.func 15), args := #[Operand.tmp 45], argTypes := #[26] }, type := 29, pos := "law.go:30", after := #[{ on := 25, ground := Ground.data }, { on := 24, ground := Ground.chain }, { on := 24, ground := Ground.guard }], guard := some (24, false) }) rfl (fun K hK => ?_) AllReadyH.nil
          go_simp
          (with_reducible refine (CS2.out _ (HT.out.keep HK.out) (HF.out.keep HK.out)).mono ?_)
          rintro e wx ⟨rfl, k3⟩
          show K _ _
          clear hHeld
          clear l0 l1 l2
          have Blx := kept (Bl.out.keep k3 (by simp))
          have HKx := kept (HK.out.and_then k3)
          clear Bl HK
          have Bl := Blx
          have HK := HKx
          clear Blx HKx
          have l0 := Bl.out.cell 0
          have l1 := Bl.out.cell 1
          have l2 := Bl.out.cell 2
          simp at l0 l1 l2
          clear k3
          refine hK.out _ _ ?rtfchS26 (fun hHeld => ?_)
          case rtfchS26 => exact ⟨l0, l1, l2⟩
          clear hK K
          try simp only [Act.put, List.setIfInBounds_toArray, List.set_cons_zero, List.set_cons_succ]
          refine wpAnyH_take (i := 27) (oi := { dst := some 47, op := Op.binOp BinOp.eql 29 (Operand.tmp 46) (Operand.const (Value.int IntKind.i64 3)) 29, type := 4, pos := "law.go:30", after := #[{ on := 26, ground := Ground.data }, { on := 24, ground := Ground.guard }], guard := some (24, false) }) (v := ?rtfcv27) rfl (by kernel_rfl) (by kernel_rfl) (by kernel_rfl) (fun _ _ _ h => h) (Or.inl ⟨by rfl, ?rtfcy27⟩) hHeld ?rtfcr27
          case rtfcy27 => (intro w hSw; (try dsimp only at hSw); go_simp; (try with_reducible rfl))
          try simp only [Act.put, List.setIfInBounds_toArray, List.set_cons_zero, List.set_cons_succ]
          refine wpAnyH_take (i := 28) (oi := { dst := some 48, op := Op.pick (Operand.tmp 44) (Operand.const (Value.bool true)) (Operand.tmp 47), type := 4, pos := "law.go:30", after := #[{ on := 24, ground := Ground.data }, { on := 27, ground := Ground.data }, { on := 21, ground := Ground.guard }], guard := some (21, true) }) (v := ?rtfcv28) rfl (by kernel_rfl) (by kernel_rfl) (by kernel_rfl) (fun _ _ _ h => h) (Or.inl ⟨by rfl, ?rtfcy28⟩) hHeld ?rtfcr28
          case rtfcy28 => (intro w hSw; (try dsimp only at hSw); go_simp; (try with_reducible rfl))
          try simp only [Act.put, List.setIfInBounds_toArray, List.set_cons_zero, List.set_cons_succ]
          refine wpAnyH_take (i := 29) (oi := { dst := some 49, op := Op.pick (Operand.tmp 41) (Operand.tmp 48) (Operand.const (Value.bool false)), type := 4, pos := "law.go:30", after := #[{ on := 21, ground := Ground.data }, { on := 28, ground := Ground.data }], guard := none }) (v := ?rtfcv29) rfl (by kernel_rfl) (by kernel_rfl) (by kernel_rfl) (fun _ _ _ h => h) (Or.inl ⟨by rfl, ?rtfcy29⟩) hHeld ?rtfcr29
          case rtfcy29 => (intro w hSw; (try dsimp only at hSw); go_simp; (try with_reducible rfl))
          try simp only [Act.put, List.setIfInBounds_toArray, List.set_cons_zero, List.set_cons_succ]
          refine wpAnyH_take (i := 30) (oi := { dst := some 2, op := Op.assign (Operand.tmp 49), type := 4, pos := "law.go:30", after := #[{ on := 29, ground := Ground.data }, { on := 26, ground := Ground.chain }, { on := 0, ground := Ground.phase }, { on := 1, ground := Ground.phase }, { on := 2, ground := Ground.phase }, { on := 3, ground := Ground.phase }, { on := 4, ground := Ground.phase }, { on := 5, ground := Ground.phase }, { on := 6, ground := Ground.phase }, { on := 7, ground := Ground.phase }, { on := 8, ground := Ground.phase }, { on := 9, ground := Ground.phase }, { on := 10, ground := Ground.phase }, { on := 11, ground := Ground.phase }, { on := 12, ground := Ground.phase }, { on := 13, ground := Ground.phase }, { on := 14, ground := Ground.phase }, { on := 15, ground := Ground.phase }, { on := 16, ground := Ground.phase }, { on := 17, ground := Ground.phase }, { on := 18, ground := Ground.phase }, { on := 19, ground := Ground.phase }, { on := 20, ground := Ground.phase }, { on := 21, ground := Ground.phase }, { on := 22, ground := Ground.phase }, { on := 23, ground := Ground.phase }, { on := 24, ground := Ground.phase }, { on := 25, ground := Ground.phase }, { on := 26, ground := Ground.phase }, { on := 27, ground := Ground.phase }, { on := 28, ground := Ground.phase }, { on := 29, ground := Ground.phase }], guard := none }) (v := ?rtfcv30) rfl (by kernel_rfl) (by kernel_rfl) (by kernel_rfl) (fun _ _ _ h => h) (Or.inl ⟨by rfl, ?rtfcy30⟩) hHeld ?rtfcr30
          case rtfcy30 => (intro w hSw; (try dsimp only at hSw); go_simp; (try with_reducible rfl))
          try simp only [Act.put, List.setIfInBounds_toArray, List.set_cons_zero, List.set_cons_succ]
          refine wpAnyH_done (by kernel_rfl) ?_ _
          clear hHeld
          go_wp2
          go_ret
          exact ⟨rfl, HK.out⟩
        | true =>
          obtain rfl : se = 0 := by have := HSE.out; simpa using this
          refine wp_region_held_drew (S := (fun w' => w'.cell? ⟨w.heap.size, 0, none⟩ = some (.slice a0 f.nv c0) ∧ w'.cell? ⟨w.heap.size, 1, none⟩ = some (.slice a1 f.np c1) ∧ w'.cell? ⟨w.heap.size, 2, none⟩ = some (.slice a2 f.nb c2))) (by kernel_rfl) ?rttchSs (fun hHeld => ?_)
          case rttchSs => exact ⟨l0, l1, l2⟩
          clear l0 l1 l2
          have Blx := kept (Bl.out.keep ((Keeps.refl _ []).drew) (by simp))
          have HKx := kept (HK.out.drew)
          clear Bl HK
          have Bl := Blx
          have HK := HKx
          clear Blx HKx
          generalize World.drew _ = X0 at *
          have l0 := Bl.out.cell 0
          have l1 := Bl.out.cell 1
          have l2 := Bl.out.cell 2
          simp at l0 l1 l2
          refine wpAnyH_take (i := 0) (oi := { dst := some 20, op := Op.load 26 (Operand.tmp 1), type := 26, pos := "law.go:30", after := #[], guard := none }) (v := ?rttcv0) rfl (by kernel_rfl) (by kernel_rfl) (by kernel_rfl) (fun _ _ _ h => h) (Or.inl ⟨by rfl, ?rttcy0⟩) hHeld ?rttcr0
          case rttcy0 => (intro w hSw; (try dsimp only at hSw); go_simp; (try with_reducible rfl))
          try simp only [Act.put, List.setIfInBounds_toArray, List.set_cons_zero, List.set_cons_succ]
          refine wpAnyH_take (i := 3) (oi := { dst := some 23, op := Op.move (Operand.tmp 4), type := 4, pos := "law.go:30", after := #[], guard := none }) (v := ?rttcv3) rfl (by kernel_rfl) (by kernel_rfl) (by kernel_rfl) (fun _ _ _ h => h) (Or.inl ⟨by rfl, ?rttcy3⟩) hHeld ?rttcr3
          case rttcy3 => (intro w hSw; (try dsimp only at hSw); go_simp; (try with_reducible rfl))
          try simp only [Act.put, List.setIfInBounds_toArray, List.set_cons_zero, List.set_cons_succ]
          refine wpAnyH_ready (rs := [1]) (by kernel_rfl) (by simp) ?_
          refine AllReadyH.cons (o := { dst := some 21, op := Op.call { callee := Callee.value (Operand.func 14), args := #[Operand.tmp 20], argTypes := #[26] }, type := 29, pos := "law.go:30", after := #[{ on := 0, ground := Ground.data }], guard := none }) rfl (fun K hK => ?_) AllReadyH.nil
          go_simp
          (with_reducible refine (CT2.out _ (HT.out.keep HK.out) (HF.out.keep HK.out)).mono ?_)
          rintro e wx ⟨rfl, k3⟩
          show K _ _
          clear hHeld
          clear l0 l1 l2
          have Blx := kept (Bl.out.keep k3 (by simp))
          have HKx := kept (HK.out.and_then k3)
          clear Bl HK
          have Bl := Blx
          have HK := HKx
          clear Blx HKx
          have l0 := Bl.out.cell 0
          have l1 := Bl.out.cell 1
          have l2 := Bl.out.cell 2
          simp at l0 l1 l2
          clear k3
          refine hK.out _ _ ?rttchS1 (fun hHeld => ?_)
          case rttchS1 => exact ⟨l0, l1, l2⟩
          clear hK K
          try simp only [Act.put, List.setIfInBounds_toArray, List.set_cons_zero, List.set_cons_succ]
          refine wpAnyH_take (i := 2) (oi := { dst := some 22, op := Op.binOp BinOp.eql 29 (Operand.tmp 21) (Operand.const (Value.int IntKind.i64 0)) 29, type := 4, pos := "law.go:30", after := #[{ on := 1, ground := Ground.data }], guard := none }) (v := ?rttcv2) rfl (by kernel_rfl) (by kernel_rfl) (by kernel_rfl) (fun _ _ _ h => h) (Or.inl ⟨by rfl, ?rttcy2⟩) hHeld ?rttcr2
          case rttcy2 => (intro w hSw; (try dsimp only at hSw); go_simp; (try with_reducible rfl))
          try simp only [Act.put, List.setIfInBounds_toArray, List.set_cons_zero, List.set_cons_succ]
          refine wpAnyH_take (i := 4) (oi := { dst := some 24, op := Op.binOp BinOp.eql 4 (Operand.tmp 22) (Operand.tmp 23) 4, type := 4, pos := "law.go:30", after := #[{ on := 2, ground := Ground.data }, { on := 3, ground := Ground.data }], guard := none }) (v := ?rttcv4) rfl (by kernel_rfl) (by kernel_rfl) (by kernel_rfl) (fun _ _ _ h => h) (Or.inl ⟨by rfl, ?rttcy4⟩) hHeld ?rttcr4
          case rttcy4 => (intro w hSw; (try dsimp only at hSw); go_simp; (try with_reducible rfl))
          try simp only [Act.put, List.setIfInBounds_toArray, List.set_cons_zero, List.set_cons_succ]
          refine wpAnyH_take (i := 5) (oi := { dst := some 25, op := Op.move (Operand.tmp 24), type := 4, pos := "law.go:30", after := #[{ on := 4, ground := Ground.data }, { on := 1, ground := Ground.chain }], guard := none }) (v := ?rttcv5) rfl (by kernel_rfl) (by kernel_rfl) (by kernel_rfl) (fun _ _ _ h => h) (Or.inl ⟨by rfl, ?rttcy5⟩) hHeld ?rttcr5
          case rttcy5 => (intro w hSw; (try dsimp only at hSw); go_simp; (try with_reducible rfl))
          try simp only [Act.put, List.setIfInBounds_toArray, List.set_cons_zero, List.set_cons_succ]
          refine wpAnyH_take (i := 6) (oi := { dst := some 26, op := Op.load 26 (Operand.tmp 1), type := 26, pos := "law.go:30", after := #[{ on := 5, ground := Ground.guard }], guard := some (5, true) }) (v := ?rttcv6) rfl (by kernel_rfl) (by kernel_rfl) (by kernel_rfl) (fun _ _ _ h => h) (Or.inl ⟨by rfl, ?rttcy6⟩) hHeld ?rttcr6
          case rttcy6 => (intro w hSw; (try dsimp only at hSw); go_simp; (try with_reducible rfl))
          try simp only [Act.put, List.setIfInBounds_toArray, List.set_cons_zero, List.set_cons_succ]
          refine wpAnyH_take (i := 9) (oi := { dst := some 29, op := Op.load 26 (Operand.tmp 1), type := 26, pos := "law.go:30", after := #[{ on := 5, ground := Ground.guard }], guard := some (5, true) }) (v := ?rttcv9) rfl (by kernel_rfl) (by kernel_rfl) (by kernel_rfl) (fun _ _ _ h => h) (Or.inl ⟨by rfl, ?rttcy9⟩) hHeld ?rttcr9
          case rttcy9 => (intro w hSw; (try dsimp only at hSw); go_simp; (try with_reducible rfl))
          try simp only [Act.put, List.setIfInBounds_toArray, List.set_cons_zero, List.set_cons_succ]
          refine wpAnyH_ready (rs := [7]) (by kernel_rfl) (by simp) ?_
          refine AllReadyH.cons (o := { dst := some 27, op := Op.call { callee := Callee.value (Operand.func 15), args := #[Operand.tmp 26], argTypes := #[26] }, type := 29, pos := "law.go:30", after := #[{ on := 6, ground := Ground.data }, { on := 5, ground := Ground.chain }, { on := 5, ground := Ground.guard }], guard := some (5, true) }) rfl (fun K hK => ?_) AllReadyH.nil
          go_simp
          (with_reducible refine (CS2.out _ (HT.out.keep HK.out) (HF.out.keep HK.out)).mono ?_)
          rintro e wx ⟨rfl, k3⟩
          show K _ _
          clear hHeld
          clear l0 l1 l2
          have Blx := kept (Bl.out.keep k3 (by simp))
          have HKx := kept (HK.out.and_then k3)
          clear Bl HK
          have Bl := Blx
          have HK := HKx
          clear Blx HKx
          have l0 := Bl.out.cell 0
          have l1 := Bl.out.cell 1
          have l2 := Bl.out.cell 2
          simp at l0 l1 l2
          clear k3
          refine hK.out _ _ ?rttchS7 (fun hHeld => ?_)
          case rttchS7 => exact ⟨l0, l1, l2⟩
          clear hK K
          try simp only [Act.put, List.setIfInBounds_toArray, List.set_cons_zero, List.set_cons_succ]
          refine wpAnyH_take (i := 8) (oi := { dst := some 28, op := Op.binOp BinOp.eql 29 (Operand.tmp 27) (Operand.const (Value.int IntKind.i64 0)) 29, type := 4, pos := "law.go:30", after := #[{ on := 7, ground := Ground.data }, { on := 5, ground := Ground.guard }], guard := some (5, true) }) (v := ?rttcv8) rfl (by kernel_rfl) (by kernel_rfl) (by kernel_rfl) (fun _ _ _ h => h) (Or.inl ⟨by rfl, ?rttcy8⟩) hHeld ?rttcr8
          case rttcy8 => (intro w hSw; (try dsimp only at hSw); go_simp; (try with_reducible rfl))
          try simp only [Act.put, List.setIfInBounds_toArray, List.set_cons_zero, List.set_cons_succ]
          refine wpAnyH_ready (rs := [10]) (by kernel_rfl) (by simp) ?_
          refine AllReadyH.cons (o := { dst := some 30, op := Op.call { callee := Callee.value (Operand.func 16), args := #[Operand.tmp 29], argTypes := #[26] }, type := 4, pos := "law.go:30", after := #[{ on := 9, ground := Ground.data }, { on := 7, ground := Ground.chain }, { on := 5, ground := Ground.guard }], guard := some (5, true) }) rfl (fun K hK => ?_) AllReadyH.nil
          go_simp
          (with_reducible refine (CSl2.out _ (HT.out.keep HK.out) (HF.out.keep HK.out)).mono ?_)
          rintro e wx ⟨rfl, k3⟩
          show K _ _
          clear hHeld
          clear l0 l1 l2
          have Blx := kept (Bl.out.keep k3 (by simp))
          have HKx := kept (HK.out.and_then k3)
          clear Bl HK
          have Bl := Blx
          have HK := HKx
          clear Blx HKx
          have l0 := Bl.out.cell 0
          have l1 := Bl.out.cell 1
          have l2 := Bl.out.cell 2
          simp at l0 l1 l2
          clear k3
          refine hK.out _ _ ?rttchS10 (fun hHeld => ?_)
          case rttchS10 => exact ⟨l0, l1, l2⟩
          clear hK K
          try simp only [Act.put, List.setIfInBounds_toArray, List.set_cons_zero, List.set_cons_succ]
          refine wpAnyH_take (i := 11) (oi := { dst := some 31, op := Op.binOp BinOp.eql 4 (Operand.tmp 28) (Operand.tmp 30) 4, type := 4, pos := "law.go:30", after := #[{ on := 8, ground := Ground.data }, { on := 10, ground := Ground.data }, { on := 5, ground := Ground.guard }], guard := some (5, true) }) (v := ?rttcv11) rfl (by kernel_rfl) (by kernel_rfl) (by kernel_rfl) (fun _ _ _ h => h) (Or.inl ⟨by rfl, ?rttcy11⟩) hHeld ?rttcr11
          case rttcy11 => (intro w hSw; (try dsimp only at hSw); go_simp; (try with_reducible rfl))
          try simp only [Act.put, List.setIfInBounds_toArray, List.set_cons_zero, List.set_cons_succ]
          refine wpAnyH_take (i := 12) (oi := { dst := some 32, op := Op.pick (Operand.tmp 25) (Operand.tmp 31) (Operand.const (Value.bool false)), type := 4, pos := "law.go:30", after := #[{ on := 5, ground := Ground.data }, { on := 11, ground := Ground.data }], guard := none }) (v := ?rttcv12) rfl (by kernel_rfl) (by kernel_rfl) (by kernel_rfl) (fun _ _ _ h => h) (Or.inl ⟨by rfl, ?rttcy12⟩) hHeld ?rttcr12
          case rttcy12 => (intro w hSw; (try dsimp only at hSw); go_simp; (try with_reducible rfl))
          try simp only [Act.put, List.setIfInBounds_toArray, List.set_cons_zero, List.set_cons_succ]
          refine wpAnyH_take (i := 13) (oi := { dst := some 33, op := Op.move (Operand.tmp 32), type := 4, pos := "law.go:30", after := #[{ on := 12, ground := Ground.data }, { on := 10, ground := Ground.chain }], guard := none }) (v := ?rttcv13) rfl (by kernel_rfl) (by kernel_rfl) (by kernel_rfl) (fun _ _ _ h => h) (Or.inl ⟨by rfl, ?rttcy13⟩) hHeld ?rttcr13
          case rttcy13 => (intro w hSw; (try dsimp only at hSw); go_simp; (try with_reducible rfl))
          try simp only [Act.put, List.setIfInBounds_toArray, List.set_cons_zero, List.set_cons_succ]
          refine wpAnyH_take (i := 14) (oi := { dst := some 34, op := Op.move (Operand.tmp 4), type := 4, pos := "law.go:30", after := #[{ on := 13, ground := Ground.guard }], guard := some (13, true) }) (v := ?rttcv14) rfl (by kernel_rfl) (by kernel_rfl) (by kernel_rfl) (fun _ _ _ h => h) (Or.inl ⟨by rfl, ?rttcy14⟩) hHeld ?rttcr14
          case rttcy14 => (intro w hSw; (try dsimp only at hSw); go_simp; (try with_reducible rfl))
          try simp only [Act.put, List.setIfInBounds_toArray, List.set_cons_zero, List.set_cons_succ]
          refine wpAnyH_take (i := 15) (oi := { dst := some 35, op := Op.move (Operand.tmp 34), type := 4, pos := "law.go:30", after := #[{ on := 14, ground := Ground.data }, { on := 13, ground := Ground.chain }, { on := 13, ground := Ground.guard }], guard := some (13, true) }) (v := ?rttcv15) rfl (by kernel_rfl) (by kernel_rfl) (by kernel_rfl) (fun _ _ _ h => h) (Or.inl ⟨by rfl, ?rttcy15⟩) hHeld ?rttcr15
          case rttcy15 => (intro w hSw; (try dsimp only at hSw); go_simp; (try with_reducible rfl))
          try simp only [Act.put, List.setIfInBounds_toArray, List.set_cons_zero, List.set_cons_succ]
          refine wpAnyH_take (i := 16) (oi := { dst := some 36, op := Op.load 26 (Operand.tmp 1), type := 26, pos := "law.go:30", after := #[{ on := 15, ground := Ground.guard }], guard := some (15, false) }) (v := undef) rfl (by kernel_rfl) (by kernel_rfl) (by kernel_rfl) (fun _ _ _ h => h) (Or.inr ⟨by rfl, rfl⟩) hHeld ?_
          try simp only [Act.put, List.setIfInBounds_toArray, List.set_cons_zero, List.set_cons_succ]
          refine wpAnyH_take (i := 17) (oi := { dst := some 37, op := Op.call { callee := Callee.value (Operand.func 14), args := #[Operand.tmp 36], argTypes := #[26] }, type := 29, pos := "law.go:30", after := #[{ on := 16, ground := Ground.data }, { on := 15, ground := Ground.chain }, { on := 15, ground := Ground.guard }], guard := some (15, false) }) (v := undef) rfl (by kernel_rfl) (by kernel_rfl) (by kernel_rfl) (fun _ _ _ h => h) (Or.inr ⟨by rfl, rfl⟩) hHeld ?_
          try simp only [Act.put, List.setIfInBounds_toArray, List.set_cons_zero, List.set_cons_succ]
          refine wpAnyH_take (i := 18) (oi := { dst := some 38, op := Op.binOp BinOp.eql 29 (Operand.tmp 37) (Operand.const (Value.int IntKind.i64 3)) 29, type := 4, pos := "law.go:30", after := #[{ on := 17, ground := Ground.data }, { on := 15, ground := Ground.guard }], guard := some (15, false) }) (v := undef) rfl (by kernel_rfl) (by kernel_rfl) (by kernel_rfl) (fun _ _ _ h => h) (Or.inr ⟨by rfl, rfl⟩) hHeld ?_
          try simp only [Act.put, List.setIfInBounds_toArray, List.set_cons_zero, List.set_cons_succ]
          refine wpAnyH_take (i := 19) (oi := { dst := some 39, op := Op.pick (Operand.tmp 35) (Operand.const (Value.bool true)) (Operand.tmp 38), type := 4, pos := "law.go:30", after := #[{ on := 15, ground := Ground.data }, { on := 18, ground := Ground.data }, { on := 13, ground := Ground.guard }], guard := some (13, true) }) (v := ?rttcv19) rfl (by kernel_rfl) (by kernel_rfl) (by kernel_rfl) (fun _ _ _ h => h) (Or.inl ⟨by rfl, ?rttcy19⟩) hHeld ?rttcr19
          case rttcy19 => (intro w hSw; (try dsimp only at hSw); go_simp; (try with_reducible rfl))
          try simp only [Act.put, List.setIfInBounds_toArray, List.set_cons_zero, List.set_cons_succ]
          refine wpAnyH_take (i := 20) (oi := { dst := some 40, op := Op.pick (Operand.tmp 33) (Operand.tmp 39) (Operand.const (Value.bool false)), type := 4, pos := "law.go:30", after := #[{ on := 13, ground := Ground.data }, { on := 19, ground := Ground.data }], guard := none }) (v := ?rttcv20) rfl (by kernel_rfl) (by kernel_rfl) (by kernel_rfl) (fun _ _ _ h => h) (Or.inl ⟨by rfl, ?rttcy20⟩) hHeld ?rttcr20
          case rttcy20 => (intro w hSw; (try dsimp only at hSw); go_simp; (try with_reducible rfl))
          try simp only [Act.put, List.setIfInBounds_toArray, List.set_cons_zero, List.set_cons_succ]
          refine wpAnyH_take (i := 21) (oi := { dst := some 41, op := Op.move (Operand.tmp 40), type := 4, pos := "law.go:30", after := #[{ on := 20, ground := Ground.data }, { on := 17, ground := Ground.chain }], guard := none }) (v := ?rttcv21) rfl (by kernel_rfl) (by kernel_rfl) (by kernel_rfl) (fun _ _ _ h => h) (Or.inl ⟨by rfl, ?rttcy21⟩) hHeld ?rttcr21
          case rttcy21 => (intro w hSw; (try dsimp only at hSw); go_simp; (try with_reducible rfl))
          try simp only [Act.put, List.setIfInBounds_toArray, List.set_cons_zero, List.set_cons_succ]
          refine wpAnyH_take (i := 22) (oi := { dst := some 42, op := Op.load 26 (Operand.tmp 1), type := 26, pos := "law.go:30", after := #[{ on := 21, ground := Ground.guard }], guard := some (21, true) }) (v := ?rttcv22) rfl (by kernel_rfl) (by kernel_rfl) (by kernel_rfl) (fun _ _ _ h => h) (Or.inl ⟨by rfl, ?rttcy22⟩) hHeld ?rttcr22
          case rttcy22 => (intro w hSw; (try dsimp only at hSw); go_simp; (try with_reducible rfl))
          try simp only [Act.put, List.setIfInBounds_toArray, List.set_cons_zero, List.set_cons_succ]
          refine wpAnyH_ready (rs := [23]) (by kernel_rfl) (by simp) ?_
          refine AllReadyH.cons (o := { dst := some 43, op := Op.call { callee := Callee.value (Operand.func 16), args := #[Operand.tmp 42], argTypes := #[26] }, type := 4, pos := "law.go:30", after := #[{ on := 22, ground := Ground.data }, { on := 21, ground := Ground.chain }, { on := 21, ground := Ground.guard }], guard := some (21, true) }) rfl (fun K hK => ?_) AllReadyH.nil
          go_simp
          (with_reducible refine (CSl2.out _ (HT.out.keep HK.out) (HF.out.keep HK.out)).mono ?_)
          rintro e wx ⟨rfl, k3⟩
          show K _ _
          clear hHeld
          clear l0 l1 l2
          have Blx := kept (Bl.out.keep k3 (by simp))
          have HKx := kept (HK.out.and_then k3)
          clear Bl HK
          have Bl := Blx
          have HK := HKx
          clear Blx HKx
          have l0 := Bl.out.cell 0
          have l1 := Bl.out.cell 1
          have l2 := Bl.out.cell 2
          simp at l0 l1 l2
          clear k3
          refine hK.out _ _ ?rttchS23 (fun hHeld => ?_)
          case rttchS23 => exact ⟨l0, l1, l2⟩
          clear hK K
          try simp only [Act.put, List.setIfInBounds_toArray, List.set_cons_zero, List.set_cons_succ]
          refine wpAnyH_take (i := 24) (oi := { dst := some 44, op := Op.move (Operand.tmp 43), type := 4, pos := "law.go:30", after := #[{ on := 23, ground := Ground.data }, { on := 23, ground := Ground.chain }, { on := 21, ground := Ground.guard }], guard := some (21, true) }) (v := ?rttcv24) rfl (by kernel_rfl) (by kernel_rfl) (by kernel_rfl) (fun _ _ _ h => h) (Or.inl ⟨by rfl, ?rttcy24⟩) hHeld ?rttcr24
          case rttcy24 => (intro w hSw; (try dsimp only at hSw); go_simp; (try with_reducible rfl))
          try simp only [Act.put, List.setIfInBounds_toArray, List.set_cons_zero, List.set_cons_succ]
          refine wpAnyH_take (i := 25) (oi := { dst := some 45, op := Op.load 26 (Operand.tmp 1), type := 26, pos := "law.go:30", after := #[{ on := 24, ground := Ground.guard }], guard := some (24, false) }) (v := undef) rfl (by kernel_rfl) (by kernel_rfl) (by kernel_rfl) (fun _ _ _ h => h) (Or.inr ⟨by rfl, rfl⟩) hHeld ?_
          try simp only [Act.put, List.setIfInBounds_toArray, List.set_cons_zero, List.set_cons_succ]
          refine wpAnyH_take (i := 26) (oi := { dst := some 46, op := Op.call { callee := Callee.value (Operand.func 15), args := #[Operand.tmp 45], argTypes := #[26] }, type := 29, pos := "law.go:30", after := #[{ on := 25, ground := Ground.data }, { on := 24, ground := Ground.chain }, { on := 24, ground := Ground.guard }], guard := some (24, false) }) (v := undef) rfl (by kernel_rfl) (by kernel_rfl) (by kernel_rfl) (fun _ _ _ h => h) (Or.inr ⟨by rfl, rfl⟩) hHeld ?_
          try simp only [Act.put, List.setIfInBounds_toArray, List.set_cons_zero, List.set_cons_succ]
          refine wpAnyH_take (i := 27) (oi := { dst := some 47, op := Op.binOp BinOp.eql 29 (Operand.tmp 46) (Operand.const (Value.int IntKind.i64 3)) 29, type := 4, pos := "law.go:30", after := #[{ on := 26, ground := Ground.data }, { on := 24, ground := Ground.guard }], guard := some (24, false) }) (v := undef) rfl (by kernel_rfl) (by kernel_rfl) (by kernel_rfl) (fun _ _ _ h => h) (Or.inr ⟨by rfl, rfl⟩) hHeld ?_
          try simp only [Act.put, List.setIfInBounds_toArray, List.set_cons_zero, List.set_cons_succ]
          refine wpAnyH_take (i := 28) (oi := { dst := some 48, op := Op.pick (Operand.tmp 44) (Operand.const (Value.bool true)) (Operand.tmp 47), type := 4, pos := "law.go:30", after := #[{ on := 24, ground := Ground.data }, { on := 27, ground := Ground.data }, { on := 21, ground := Ground.guard }], guard := some (21, true) }) (v := ?rttcv28) rfl (by kernel_rfl) (by kernel_rfl) (by kernel_rfl) (fun _ _ _ h => h) (Or.inl ⟨by rfl, ?rttcy28⟩) hHeld ?rttcr28
          case rttcy28 => (intro w hSw; (try dsimp only at hSw); go_simp; (try with_reducible rfl))
          try simp only [Act.put, List.setIfInBounds_toArray, List.set_cons_zero, List.set_cons_succ]
          refine wpAnyH_take (i := 29) (oi := { dst := some 49, op := Op.pick (Operand.tmp 41) (Operand.tmp 48) (Operand.const (Value.bool false)), type := 4, pos := "law.go:30", after := #[{ on := 21, ground := Ground.data }, { on := 28, ground := Ground.data }], guard := none }) (v := ?rttcv29) rfl (by kernel_rfl) (by kernel_rfl) (by kernel_rfl) (fun _ _ _ h => h) (Or.inl ⟨by rfl, ?rttcy29⟩) hHeld ?rttcr29
          case rttcy29 => (intro w hSw; (try dsimp only at hSw); go_simp; (try with_reducible rfl))
          try simp only [Act.put, List.setIfInBounds_toArray, List.set_cons_zero, List.set_cons_succ]
          refine wpAnyH_take (i := 30) (oi := { dst := some 2, op := Op.assign (Operand.tmp 49), type := 4, pos := "law.go:30", after := #[{ on := 29, ground := Ground.data }, { on := 26, ground := Ground.chain }, { on := 0, ground := Ground.phase }, { on := 1, ground := Ground.phase }, { on := 2, ground := Ground.phase }, { on := 3, ground := Ground.phase }, { on := 4, ground := Ground.phase }, { on := 5, ground := Ground.phase }, { on := 6, ground := Ground.phase }, { on := 7, ground := Ground.phase }, { on := 8, ground := Ground.phase }, { on := 9, ground := Ground.phase }, { on := 10, ground := Ground.phase }, { on := 11, ground := Ground.phase }, { on := 12, ground := Ground.phase }, { on := 13, ground := Ground.phase }, { on := 14, ground := Ground.phase }, { on := 15, ground := Ground.phase }, { on := 16, ground := Ground.phase }, { on := 17, ground := Ground.phase }, { on := 18, ground := Ground.phase }, { on := 19, ground := Ground.phase }, { on := 20, ground := Ground.phase }, { on := 21, ground := Ground.phase }, { on := 22, ground := Ground.phase }, { on := 23, ground := Ground.phase }, { on := 24, ground := Ground.phase }, { on := 25, ground := Ground.phase }, { on := 26, ground := Ground.phase }, { on := 27, ground := Ground.phase }, { on := 28, ground := Ground.phase }, { on := 29, ground := Ground.phase }], guard := none }) (v := ?rttcv30) rfl (by kernel_rfl) (by kernel_rfl) (by kernel_rfl) (fun _ _ _ h => h) (Or.inl ⟨by rfl, ?rttcy30⟩) hHeld ?rttcr30
          case rttcy30 => (intro w hSw; (try dsimp only at hSw); go_simp; (try with_reducible rfl))
          try simp only [Act.put, List.setIfInBounds_toArray, List.set_cons_zero, List.set_cons_succ]
          refine wpAnyH_done (by kernel_rfl) ?_ _
          clear hHeld
          go_wp2
          go_ret
          exact ⟨rfl, HK.out⟩
end Go.Proofs.YtjllbchfojonhaaDoor
