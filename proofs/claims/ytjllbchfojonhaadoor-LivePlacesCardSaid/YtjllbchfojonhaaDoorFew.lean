/- A little program; contract. -/
import Derived.Test.YtjllbchfojonhaaDoorTypC
namespace Go.Proofs.YtjllbchfojonhaaDoor
open Go.RowKit
set_option linter.unusedVariables false
set_option linter.unusedSimpArgs false

structure FewQ (f : FuncM) : Prop where
  few : FewP f
  sum : bsum f.blocks.2 ≤ 400
def FewOut (f : FuncM) (w : World) (e : Ending) (w' : World) : Prop := ∃ b, e = .returned (.bool b) ∧ (b = true → FewQ f) ∧ Keeps w w' []

set_option maxRecDepth 100000 in
set_option maxHeartbeats 8000000 in
theorem few_any0 (f : FuncM) (w : World) (hf : FuncAt w f) : Calls Tryd.prog 11 #[f.val] w fun e w' => FewOut f w e w' := by
  obtain ⟨a0, c0, e0, -, -, hc0⟩ := hf.vars.open_
  obtain ⟨a1, c1, e1, -, -, hc1⟩ := (show Row w 1 f.params.1 (f.params.2.map intCells) from hf.params).open_
  obtain ⟨a2, c2, e2, -, -, hc2⟩ := hf.blocks.open_
  have hval : f.val = .agg #[.slice a0 f.nv c0, .slice a1 f.np c1, .slice a2 f.nb c2] := by unfold FuncM.val FuncM.nv FuncM.np FuncM.nb; rw [e0, e1, e2]
  have h1 : #[f.vars.1, f.params.1, f.blocks.1] = #[.slice a0 f.nv c0, .slice a1 f.np c1, .slice a2 f.nb c2] := by unfold FuncM.nv FuncM.np FuncM.nb; rw [e0, e1, e2]
  have HF := kept hf
  have HC0 := kept hc0
  have HC1 := kept hc1
  have HC2 := kept hc2
  have HNV := kept (show f.vars.2.length = f.nv from rfl)
  have HNP := kept (show f.params.2.length = f.np from rfl)
  have HNB := kept (show f.blocks.2.length = f.nb from rfl)
  rw [hval]
  clear e0 e1 e2 hval h1 hf hc0 hc1 hc2
  have hk0 : Keeps w (w.alloc (.cells #[.slice a0 f.nv c0, .slice a1 f.np c1, .slice a2 f.nb c2] 26)) [] := (Keeps.refl _ []).alloc _
  have bb0 := Blk.new w 26 #[.slice a0 f.nv c0, .slice a1 f.np c1, .slice a2 f.nb c2]
  have Bl := kept bb0
  have HK := kept hk0
  have l0 := Bl.out.cell 0
  have l1 := Bl.out.cell 1
  have l2 := Bl.out.cell 2
  simp at l0 l1 l2
  clear hk0 bb0
  by_cases hnv : (100 : Int) < (f.nv : Int)
  · go_enter Tryd.func11, Tryd.ntmps11
    go_wp2
    go_ret
    exact ⟨false, rfl, fun h => (by cases h), HK.out⟩
  by_cases hnb : (40 : Int) < (f.nb : Int)
  · go_enter Tryd.func11, Tryd.ntmps11
    go_wp2
    go_ret
    exact ⟨false, rfl, fun h => (by cases h), HK.out⟩
  by_cases hnp : (20 : Int) < (f.np : Int)
  · go_enter Tryd.func11, Tryd.ntmps11
    go_wp2
    go_ret
    exact ⟨false, rfl, fun h => (by cases h), HK.out⟩
  go_enter Tryd.func11, Tryd.ntmps11
  go_wp2
  clear l0 l1 l2
  generalize (w.alloc (.cells #[.slice a0 f.nv c0, .slice a1 f.np c1, .slice a2 f.nb c2] 26)) = W0 at *
  have Bl_W0 := Bl
  have TW0 := HK
  clear HK
  have HK := kept (Keeps.refl W0 [])
  have l0 := Bl.out.cell 0
  have l1 := Bl.out.cell 1
  have l2 := Bl.out.cell 2
  simp at l0 l1 l2
  go_loopw [3, 31] (fun s i wr => ∃ k n : Nat, k ≤ f.nv ∧ i = .int .i64 k ∧ s = .int .i64 n ∧ Keeps W0 wr [] ∧ n ≤ 400 * k) (fun _ i _ => f.nv - (intOf i).toNat)
  case atStart => exact ⟨0, 0, Nat.zero_le _, rfl, rfl, HK.out, Nat.le_refl _⟩
  case round =>
    obtain ⟨k, n, hk, rfl, rfl, hr, hn⟩ := hrel
    clear l0 l1 l2
    clear Bl HK
    have HK := kept hr
    have Bl := kept (Bl_W0.out.keep hr (by simp))
    clear hr
    have l0 := Bl.out.cell 0
    have l1 := Bl.out.cell 1
    have l2 := Bl.out.cell 2
    simp at l0 l1 l2
    by_cases hlt : k < f.nv
    · have hltz : (k : Int) < (f.nv : Int) := by omega
      obtain ⟨bb, off, rfl, hbl, hcell⟩ := HC0.out k (by rw [HNV.out]; exact hlt)
      have n0 := (TW0.out.and_then HK.out).cellOf (hcell 0 _ rfl)
      have n1 := (TW0.out.and_then HK.out).cellOf (hcell 1 _ rfl)
      simp only [Nat.add_zero] at n0
      clear hcell HC0
      generalize f.vars.2[k]! = y at *
      generalize y.name = yn at *
      generalize y.type = yt at *
      clear l0 l1 l2
      have bmx := Blk.new wr 69 #[.string yn, .int .i64 yt]
      have k3 : Keeps wr (wr.alloc (.cells #[.string yn, .int .i64 yt] 69)) [] := (Keeps.refl wr []).alloc _
      have Blx := kept (Bl.out.keep k3 (by simp))
      have HKx := kept (HK.out.and_then k3)
      clear k3 Bl HK
      have Bl := Blx
      have HK := HKx
      have Bm := kept bmx
      clear bmx Blx HKx
      have l0 := Bl.out.cell 0
      have l1 := Bl.out.cell 1
      have l2 := Bl.out.cell 2
      have m0 := Bm.out.cell 0
      have m1 := Bm.out.cell 1
      simp at l0 l1 l2 m0 m1
      by_cases hs : (400 : Int) < (yn.size : Int)
      · go_wp2
        go_ret
        exact ⟨false, rfl, fun h => (by cases h), (TW0.out.and_then HK.out)⟩
      · go_wp2
        go_roundw
        case rel => exact ⟨k + 1, n + yn.size, by omega, by go_num, by go_num, HK.out, by omega⟩
        case measure => simp [intOf]; omega
    · have hltz : ¬ (k : Int) < (f.nv : Int) := by omega
      have hn2 : n ≤ 40000 := by omega
      go_wp2
      clear hn hltz hlt hk
      obtain ⟨n9, hn9⟩ : ∃ n9, n = n9 := ⟨_, rfl⟩
      go_loopw [3, 48] (fun s i wr => ∃ k n : Nat, k ≤ f.nb ∧ i = .int .i64 k ∧ s = .int .i64 n ∧ Keeps W0 wr [] ∧ n ≤ 40000 + 1000000 * k ∧ 10 * bsum (f.blocks.2.take k) ≤ n ∧ (0 < k → n ≤ 4000) ∧ Hid (∀ j, j < k → f.blocks.2[j]!.phis.2.length ≤ 400 ∧ f.blocks.2[j]!.insts.2.length ≤ 400)) (fun _ i _ => f.nb - (intOf i).toNat)
      case atStart => exact ⟨0, n, Nat.zero_le _, rfl, rfl, HK.out, by omega, by rw [List.take_zero]; exact Nat.zero_le _, fun h => absurd h (Nat.lt_irrefl _), fun j hj => absurd hj (Nat.not_lt_zero _)⟩
      case round =>
        clear hn2 hn9
        obtain ⟨k, n, hk, rfl, rfl, hr, hn, hsum, hfour, A⟩ := hrel
        obtain ⟨wo, hwo⟩ : ∃ wo : World, wo = wr := ⟨_, rfl⟩
        subst hwo
        clear l0 l1 l2
        clear Bl HK
        have HK := kept hr
        have Bl := kept (Bl_W0.out.keep hr (by simp))
        clear hr
        have l0 := Bl.out.cell 0
        have l1 := Bl.out.cell 1
        have l2 := Bl.out.cell 2
        simp at l0 l1 l2
        by_cases hlt : k < f.nb
        · have hltz : (k : Int) < (f.nb : Int) := by omega
          obtain ⟨bb, off, rfl, hbl, hcell⟩ := HC2.out k (by rw [HNB.out]; exact hlt)
          have n0 := (TW0.out.and_then HK.out).cellOf (hcell 0 _ rfl)
          have n1 := (TW0.out.and_then HK.out).cellOf (hcell 1 _ rfl)
          have n2 := (TW0.out.and_then HK.out).cellOf (hcell 2 _ rfl)
          have n3 := (TW0.out.and_then HK.out).cellOf (hcell 3 _ rfl)
          have n4 := (TW0.out.and_then HK.out).cellOf (hcell 4 _ rfl)
          have n5 := (TW0.out.and_then HK.out).cellOf (hcell 5 _ rfl)
          have n6 := (TW0.out.and_then HK.out).cellOf (hcell 6 _ rfl)
          simp only [Nat.add_zero] at n0
          have hyb := (HF.out.keep (TW0.out.and_then HK.out)).block _ (bang_mem (l := f.blocks.2) (k := k) (by rw [HNB.out]; exact hlt))
          have HSn := kept (bsum_snoc f.blocks.2 k (by rw [HNB.out]; exact hlt))
          clear hcell HC2 HC0 HC1
          generalize hy : f.blocks.2[k]! = y at *
          have HY := kept hy
          clear hy
          obtain ⟨pa, pc, pe, -, -, hpc⟩ := hyb.phis.open_
          obtain ⟨qa, qc, qe, -, -, hqc⟩ := hyb.insts.open_
          have HYB := kept hyb
          rw [pe] at n1
          rw [qe] at n2
          have HPC := kept hpc
          have HQC := kept hqc
          clear hyb pe qe hpc hqc
          generalize hPN : y.phis.2.length = pn at *
          generalize hQN : y.insts.2.length = qn at *
          have HPN := kept hPN
          have HQN := kept hQN
          clear hPN hQN
          generalize y.name = yn at *
          generalize y.kind = yk at *
          generalize y.var = yv at *
          generalize y.to0 = y0 at *
          generalize y.to1 = y1 at *
          generalize hbs : bsum (f.blocks.2.take k) = BS at *
          clear l0 l1 l2
          have bmx := Blk.new wo 39 #[.string yn, .slice pa pn pc, .slice qa qn qc, .int .i64 yk, .int .i64 yv, .int .i64 y0, .int .i64 y1]
          have k3 : Keeps wo (wo.alloc (.cells #[.string yn, .slice pa pn pc, .slice qa qn qc, .int .i64 yk, .int .i64 yv, .int .i64 y0, .int .i64 y1] 39)) [] := (Keeps.refl wo []).alloc _
          have Blx := kept (Bl.out.keep k3 (by simp))
          have HKx := kept (HK.out.and_then k3)
          clear k3 Bl HK
          have Bl := Blx
          have HK := HKx
          have Bm := kept bmx
          clear bmx Blx HKx
          have l0 := Bl.out.cell 0
          have l1 := Bl.out.cell 1
          have l2 := Bl.out.cell 2
          have m0 := Bm.out.cell 0
          have m1 := Bm.out.cell 1
          have m2 := Bm.out.cell 2
          have m3 := Bm.out.cell 3
          have m4 := Bm.out.cell 4
          have m5 := Bm.out.cell 5
          have m6 := Bm.out.cell 6
          simp at l0 l1 l2 m0 m1 m2 m3 m4 m5 m6
          by_cases hs : (400 : Int) < (yn.size : Int)
          · go_wp2
            go_ret
            exact ⟨false, rfl, fun h => (by cases h), (TW0.out.and_then HK.out)⟩
          by_cases hp4 : (400 : Int) < (pn : Int)
          · go_wp2
            go_ret
            exact ⟨false, rfl, fun h => (by cases h), (TW0.out.and_then HK.out)⟩
          by_cases hq4 : (400 : Int) < (qn : Int)
          · go_wp2
            go_ret
            exact ⟨false, rfl, fun h => (by cases h), (TW0.out.and_then HK.out)⟩
          go_wp2
          clear n0 n1 n2 n3 n4 n5 n6
          have TWo : Hid (Keeps wo (wo.alloc (.cells #[.string yn, .slice pa pn pc, .slice qa qn qc, .int .i64 yk, .int .i64 yv, .int .i64 y0, .int .i64 y1] 39)) []) := (Keeps.refl wo []).alloc _
          clear l0 l1 l2 m0 m1 m2 m3 m4 m5 m6
          generalize wo.alloc (.cells #[.string yn, .slice pa pn pc, .slice qa qn qc, .int .i64 yk, .int .i64 yv, .int .i64 y0, .int .i64 y1] 39) = WB at *
          have Bl_WB := Bl
          have Bm_WB := Bm
          have TWB := HK
          clear HK
          have HK := kept (Keeps.refl WB [])
          have l0 := Bl.out.cell 0
          have l1 := Bl.out.cell 1
          have l2 := Bl.out.cell 2
          have m0 := Bm.out.cell 0
          have m1 := Bm.out.cell 1
          have m2 := Bm.out.cell 2
          have m3 := Bm.out.cell 3
          have m4 := Bm.out.cell 4
          have m5 := Bm.out.cell 5
          have m6 := Bm.out.cell 6
          simp at l0 l1 l2 m0 m1 m2 m3 m4 m5 m6
          generalize hn1 : n + (yn.size + 10 * (pn + qn)) = n1 at *
          go_loopw [3, 85] (fun s i wr => ∃ i1 j1 : Nat, i1 ≤ pn ∧ i = .int .i64 i1 ∧ s = .int .i64 j1 ∧ Keeps WB wr [] ∧ n1 ≤ j1 ∧ j1 ≤ n1 + 800 * i1) (fun _ i _ => pn - (intOf i).toNat)
          case atStart => exact ⟨0, n1, Nat.zero_le _, rfl, by go_num, HK.out, Nat.le_refl _, Nat.le_refl _⟩
          case round =>
            obtain ⟨i1, j1, hj, rfl, rfl, hr, hm1, hm2⟩ := hrel
            clear l0 l1 l2 m0 m1 m2 m3 m4 m5 m6
            clear Bl Bm HK
            have HK := kept hr
            have Bl := kept (Bl_WB.out.keep hr (by simp))
            have Bm := kept (Bm_WB.out.keep hr (by simp))
            clear hr
            have l0 := Bl.out.cell 0
            have l1 := Bl.out.cell 1
            have l2 := Bl.out.cell 2
            have m0 := Bm.out.cell 0
            have m1 := Bm.out.cell 1
            have m2 := Bm.out.cell 2
            have m3 := Bm.out.cell 3
            have m4 := Bm.out.cell 4
            have m5 := Bm.out.cell 5
            have m6 := Bm.out.cell 6
            simp at l0 l1 l2 m0 m1 m2 m3 m4 m5 m6
            by_cases hltj : i1 < pn
            · have hltjz : (i1 : Int) < (pn : Int) := by omega
              obtain ⟨pb, po, rfl, hpb, hpcell⟩ := HPC.out i1 hltj
              have n0 := (TWo.out.and_then HK.out).cellOf (hpcell 0 _ rfl)
              have n1 := (TWo.out.and_then HK.out).cellOf (hpcell 1 _ rfl)
              have n2 := (TWo.out.and_then HK.out).cellOf (hpcell 2 _ rfl)
              simp only [Nat.add_zero] at n0
              have hpa := HYB.out.phi _ (bang_mem (l := y.phis.2) (k := i1) (by rw [HPN.out]; exact hltj))
              clear hpcell HPC
              generalize y.phis.2[i1]! = p at *
              obtain ⟨u1, v1, e1, -⟩ := IntsAt.open_ hpa.1
              obtain ⟨u2, v2, e2, -⟩ := IntsAt.open_ hpa.2
              rw [e1] at n1
              rw [e2] at n2
              clear e1 e2
              generalize p.args.2.length = pna at *
              generalize p.froms.2.length = pnf at *
              generalize p.dst = pdst at *
              clear hpa
              clear l0 l1 l2 m0 m1 m2 m3 m4 m5 m6
              have bmx := Blk.new wr 79 #[.int .i64 pdst, .slice u1 pna v1, .slice u2 pnf v2]
              have k3 : Keeps wr (wr.alloc (.cells #[.int .i64 pdst, .slice u1 pna v1, .slice u2 pnf v2] 79)) [] := (Keeps.refl wr []).alloc _
              have Blx := kept (Bl.out.keep k3 (by simp))
              have Bmx := kept (Bm.out.keep k3 (by simp))
              have HKx := kept (HK.out.and_then k3)
              clear k3 Bl Bm HK
              have Bl := Blx
              have Bm := Bmx
              have HK := HKx
              have Bq := kept bmx
              clear bmx Blx Bmx HKx
              have l0 := Bl.out.cell 0
              have l1 := Bl.out.cell 1
              have l2 := Bl.out.cell 2
              have m0 := Bm.out.cell 0
              have m1 := Bm.out.cell 1
              have m2 := Bm.out.cell 2
              have m3 := Bm.out.cell 3
              have m4 := Bm.out.cell 4
              have m5 := Bm.out.cell 5
              have m6 := Bm.out.cell 6
              have q0 := Bq.out.cell 0
              have q1 := Bq.out.cell 1
              have q2 := Bq.out.cell 2
              simp at l0 l1 l2 m0 m1 m2 m3 m4 m5 m6 q0 q1 q2
              by_cases hf4 : (4000 : Int) < (j1 : Int)
              · go_wp2
                go_ret
                exact ⟨false, rfl, fun h => (by cases h), (TW0.out.and_then (TWB.out.and_then HK.out))⟩
              by_cases hl0 : (400 : Int) < (pna : Int)
              · go_wp2
                go_ret
                exact ⟨false, rfl, fun h => (by cases h), (TW0.out.and_then (TWB.out.and_then HK.out))⟩
              by_cases hl1 : (400 : Int) < (pnf : Int)
              · go_wp2
                go_ret
                exact ⟨false, rfl, fun h => (by cases h), (TW0.out.and_then (TWB.out.and_then HK.out))⟩
              go_wp2
              go_roundw
              case rel => exact ⟨i1 + 1, j1 + (pna + pnf), by omega, by go_num, by go_num, HK.out, by omega, by omega⟩
              case measure => simp [intOf]; omega
            · have hltjz : ¬ (i1 : Int) < (pn : Int) := by omega
              have hn2 : n1 ≤ j1 := by omega
              have hn3 : j1 ≤ n1 + 800 * 400 := by omega
              clear hltj hm1 hm2 hj
              go_wp2
              go_loopw [3, 116] (fun s i wr => ∃ i2 j2 : Nat, i2 ≤ qn ∧ i = .int .i64 i2 ∧ s = .int .i64 j2 ∧ Keeps WB wr [] ∧ j1 ≤ j2 ∧ j2 ≤ j1 + 800 * i2) (fun _ i _ => qn - (intOf i).toNat)
              case atStart => exact ⟨0, j1, Nat.zero_le _, rfl, rfl, HK.out, Nat.le_refl _, Nat.le_refl _⟩
              case round =>
                obtain ⟨i2, j2, hj, rfl, rfl, hr, hm1, hm2⟩ := hrel
                clear l0 l1 l2 m0 m1 m2 m3 m4 m5 m6
                clear Bl Bm HK
                have HK := kept hr
                have Bl := kept (Bl_WB.out.keep hr (by simp))
                have Bm := kept (Bm_WB.out.keep hr (by simp))
                clear hr
                have l0 := Bl.out.cell 0
                have l1 := Bl.out.cell 1
                have l2 := Bl.out.cell 2
                have m0 := Bm.out.cell 0
                have m1 := Bm.out.cell 1
                have m2 := Bm.out.cell 2
                have m3 := Bm.out.cell 3
                have m4 := Bm.out.cell 4
                have m5 := Bm.out.cell 5
                have m6 := Bm.out.cell 6
                simp at l0 l1 l2 m0 m1 m2 m3 m4 m5 m6
                by_cases hltj : i2 < qn
                · have hltjz : (i2 : Int) < (qn : Int) := by omega
                  obtain ⟨pb, po, rfl, hpb, hpcell⟩ := HQC.out i2 hltj
                  have n0 := (TWo.out.and_then HK.out).cellOf (hpcell 0 _ rfl)
                  have n1 := (TWo.out.and_then HK.out).cellOf (hpcell 1 _ rfl)
                  have n2 := (TWo.out.and_then HK.out).cellOf (hpcell 2 _ rfl)
                  have n3 := (TWo.out.and_then HK.out).cellOf (hpcell 3 _ rfl)
                  simp only [Nat.add_zero] at n0
                  have hpa := HYB.out.inst _ (bang_mem (l := y.insts.2) (k := i2) (by rw [HQN.out]; exact hltj))
                  clear hpcell HQC
                  generalize y.insts.2[i2]! = p at *
                  obtain ⟨u1, v1, e1, -⟩ := IntsAt.open_ hpa
                  rw [e1] at n2
                  clear e1
                  generalize p.args.2.length = pna at *
                  generalize p.op = pop at *
                  generalize p.dst = pdst at *
                  generalize p.num = pnum at *
                  clear hpa
                  clear l0 l1 l2 m0 m1 m2 m3 m4 m5 m6
                  have bmx := Blk.new wr 42 #[.int .i64 pop, .int .i64 pdst, .slice u1 pna v1, .int .i64 pnum]
                  have k3 : Keeps wr (wr.alloc (.cells #[.int .i64 pop, .int .i64 pdst, .slice u1 pna v1, .int .i64 pnum] 42)) [] := (Keeps.refl wr []).alloc _
                  have Blx := kept (Bl.out.keep k3 (by simp))
                  have Bmx := kept (Bm.out.keep k3 (by simp))
                  have HKx := kept (HK.out.and_then k3)
                  clear k3 Bl Bm HK
                  have Bl := Blx
                  have Bm := Bmx
                  have HK := HKx
                  have Bq := kept bmx
                  clear bmx Blx Bmx HKx
                  have l0 := Bl.out.cell 0
                  have l1 := Bl.out.cell 1
                  have l2 := Bl.out.cell 2
                  have m0 := Bm.out.cell 0
                  have m1 := Bm.out.cell 1
                  have m2 := Bm.out.cell 2
                  have m3 := Bm.out.cell 3
                  have m4 := Bm.out.cell 4
                  have m5 := Bm.out.cell 5
                  have m6 := Bm.out.cell 6
                  have q0 := Bq.out.cell 0
                  have q1 := Bq.out.cell 1
                  have q2 := Bq.out.cell 2
                  have q3 := Bq.out.cell 3
                  simp at l0 l1 l2 m0 m1 m2 m3 m4 m5 m6 q0 q1 q2 q3
                  by_cases hf4 : (4000 : Int) < (j2 : Int)
                  · go_wp2
                    go_ret
                    exact ⟨false, rfl, fun h => (by cases h), (TW0.out.and_then (TWB.out.and_then HK.out))⟩
                  by_cases hl0 : (400 : Int) < (pna : Int)
                  · go_wp2
                    go_ret
                    exact ⟨false, rfl, fun h => (by cases h), (TW0.out.and_then (TWB.out.and_then HK.out))⟩
                  go_wp2
                  go_roundw
                  case rel => exact ⟨i2 + 1, j2 + (pna), by omega, by go_num, by go_num, HK.out, by omega, by omega⟩
                  case measure => simp [intOf]; omega
                · have hltjz : ¬ (i2 : Int) < (qn : Int) := by omega
                  by_cases hf4 : (4000 : Int) < (j2 : Int)
                  · go_wp2
                    go_ret
                    exact ⟨false, rfl, fun h => (by cases h), (TW0.out.and_then (TWB.out.and_then HK.out))⟩
                  go_wp2
                  go_roundw
                  case rel =>
                    refine ⟨k + 1, j2, by omega, by go_num, rfl, (TWB.out.and_then HK.out), by omega, ?_, fun _ => by omega, (show Hid _ from fun q hq => ?_)⟩
                    · rw [HSn.out]; omega
                    · by_cases e : q = k
                      · subst e; rw [HY.out, HPN.out, HQN.out]; exact ⟨by omega, by omega⟩
                      · exact A.out q (by omega)
                  case measure => simp [intOf]; omega
        · have hltz : ¬ (k : Int) < (f.nb : Int) := by omega
          obtain rfl : f.nb = k := by omega
          go_wp2
          go_ret
          refine ⟨true, rfl, fun _ => ⟨⟨by omega, by omega, by omega, fun b hb => ?_⟩, ?_⟩, (TW0.out.and_then HK.out)⟩
          · obtain ⟨j, hj, rfl⟩ := List.mem_iff_getElem.1 hb
            have := A.out j (by rw [← HNB.out]; exact hj)
            rwa [getElem!_pos f.blocks.2 j hj] at this
          · rw [show f.blocks.2.take f.nb = f.blocks.2 by rw [← HNB.out]; exact List.take_length] at hsum
            by_cases h0 : 0 < f.nb
            · have := hfour h0; omega
            · have : f.blocks.2 = [] := List.length_eq_zero_iff.1 (by rw [HNB.out]; omega)
              rw [this]; decide
theorem few_any (f : FuncM) (w : World) (hf : FuncAt w f) : Calls Tryd.prog 11 #[f.val] w fun e w' => ∃ b, e = .returned (.bool b) ∧ (b = true → FewQ f) ∧ Keeps w w' [] := (few_any0 f w hf).mono fun _ _ h => h
end Go.Proofs.YtjllbchfojonhaaDoor
