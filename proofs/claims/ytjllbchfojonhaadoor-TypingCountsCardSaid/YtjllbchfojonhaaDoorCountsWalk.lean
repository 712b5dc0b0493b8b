/- The law 'TypingCounts': the walk. -/
import Derived.Test.YtjllbchfojonhaaDoorCount
import Derived.Test.YtjllbchfojonhaaDoorLives6
namespace Go.Proofs.YtjllbchfojonhaaDoor
open Go.RowKit
set_option linter.unusedVariables false
set_option linter.unusedSimpArgs false

theorem refcheck_no (op : Int) (h : chkB op = false) (w : World) : Calls Tryd.prog 17 #[.int .i64 op] w fun e w' => e = .returned (.int .i64 0) ∧ w = w' := by
  have h2 : op < 18 ∨ 24 < op := by
    by_cases h18 : 18 ≤ op
    · by_cases h24 : op ≤ 24
      · unfold chkB at h; rw [decide_eq_true h18, decide_eq_true h24] at h; cases h
      · exact .inr (by omega)
    · exact .inl (by omega)
  clear h
  by_cases h1 : op < 18
  · go_enter Tryd.func17, Tryd.ntmps17
    go_wp2
    go_ret
    exact ⟨rfl, rfl⟩
  · have h3 : 24 < op := by omega
    go_enter Tryd.func17, Tryd.ntmps17
    go_wp2
    go_ret
    exact ⟨rfl, rfl⟩
theorem refcheck_at (op : Int) (h : chkB op = true) (w : World) : Calls Tryd.prog 17 #[.int .i64 op] w fun e w' => e = .returned (.int .i64 (((op - 17).toNat : Nat) : Int)) ∧ w = w' := by
  have h2 : 18 ≤ op ∧ op ≤ 24 := by simpa [chkB] using h
  have := refcheck_any op w (by omega)
  rw [if_pos h] at this
  rw [show (((op - 17).toNat : Nat) : Int) = op - 17 by omega]
  exact this
theorem eq8 (a0 a1 a2 a3 a4 a5 a6 a7 : Int) (w : World) : (Op.equalIn 10000 31 (.agg #[.int .i64 a0, .int .i64 a1, .int .i64 a2, .int .i64 a3, .int .i64 a4, .int .i64 a5, .int .i64 a6, .int .i64 a7]) (.agg #[.int .i64 a0, .int .i64 a1, .int .i64 a2, .int .i64 a3, .int .i64 a4, .int .i64 a5, .int .i64 a6, .int .i64 a7])).run Tryd.prog w = .ok true w := by
  obtain ⟨i, hi⟩ : ∃ i, Tryd.prog.info? 3 = some i := Option.isSome_iff_exists.1 (by kernel_rfl)
  rw [show 10000 = 9999 + 1 from rfl, run_equalIn_array (P := Tryd.prog) (w := w) 9999 _ _ Tryd.underlying31 hi]
  rw [show Tryd.prog.cellsOf 3 = 1 by kernel_rfl, show List.range 8 = [0, 1, 2, 3, 4, 5, 6, 7] from rfl]
  simp [Op.eqItems, go_sem, run_equalIn_int _ _ _ _ _ _ _ Tryd.underlying3]
def TrueOut (w : World) (e : Ending) (w' : World) : Prop := e = .returned (.bool true) ∧ Keeps w w' []

set_option maxRecDepth 100000 in
set_option maxHeartbeats 8000000 in
theorem walkTypingCounts (f : FuncM) (w : World) (ht : Tabs w) (hf : FuncAt w f) : Calls Tryd.prog 4 #[f.val] w fun e w' => e = .returned (.bool true) ∧ Keeps w w' [] := by
  have CF := kept (fun W h => few_any f W h)
  have CL := kept (fun W h => lives6_any W h)
  have HT := kept ht
  obtain ⟨a0, c0, e0, -, -, hc0⟩ := hf.vars.open_
  obtain ⟨a1, c1, e1, -, -, hc1⟩ := (show Row w 1 f.params.1 (f.params.2.map intCells) from hf.params).open_
  obtain ⟨a2, c2, e2, -, -, hc2⟩ := hf.blocks.open_
  have hval : f.val = .agg #[.slice a0 f.nv c0, .slice a1 f.np c1, .slice a2 f.nb c2] := by unfold FuncM.val FuncM.nv FuncM.np FuncM.nb; rw [e0, e1, e2]
  have h1 : #[f.vars.1, f.params.1, f.blocks.1] = #[.slice a0 f.nv c0, .slice a1 f.np c1, .slice a2 f.nb c2] := by unfold FuncM.nv FuncM.np FuncM.nb; rw [e0, e1, e2]
  have HF := kept hf
  have HC0 := kept hc0
  have HC1 := kept hc1
  have HC2 := kept hc2
  have HNV := kept (show f.vars.2.length = f.nv from rfl)
  have HNP := kept (show f.params.2.length = f.np from rfl)
  have HNB := kept (show f.blocks.2.length = f.nb from rfl)
  have CC := kept (fun W h h2 => count_any f W h h2)
  have CG := kept (fun W h h2 => guards_any f W h h2)
  rw [opsT_all] at CG
  rw [hval] at CF CC CG ⊢
  clear e0 e1 e2 hval h1 hf hc0 hc1 hc2 ht
  have hk0 : Keeps w (w.alloc (.cells #[.slice a0 f.nv c0, .slice a1 f.np c1, .slice a2 f.nb c2] 26)) [] := (Keeps.refl _ []).alloc _
  have bb0 := Blk.new w 26 #[.slice a0 f.nv c0, .slice a1 f.np c1, .slice a2 f.nb c2]
  have Bl := kept bb0
  have HK := kept hk0
  have l0 := Bl.out.cell 0
  have l1 := Bl.out.cell 1
  have l2 := Bl.out.cell 2
  simp at l0 l1 l2
  clear hk0 bb0
  go_enter Tryd.func4, Tryd.ntmps4
  go_wp2_with fail
  refine (CL.out _ (HT.out.keep HK.out)).mono ?_
  rintro e w3 ⟨rfl, k3⟩
  clear l0 l1 l2
  have Blx := kept (Bl.out.keep k3 (by simp))
  have HKx := kept (HK.out.and_then k3)
  clear Bl HK
  have Bl := Blx
  have HK := HKx
  clear Blx HKx
  have l0 := Bl.out.cell 0
  have l1 := Bl.out.cell 1
  have l2 := Bl.out.cell 2
  simp at l0 l1 l2
  clear k3
  go_wp2_with fail
  refine (CF.out _ (HF.out.keep HK.out)).mono ?_
  rintro e w4 ⟨b, rfl, hb, k3⟩
  have HBF := kept hb
  clear hb
  clear l0 l1 l2
  have Blx := kept (Bl.out.keep k3 (by simp))
  have HKx := kept (HK.out.and_then k3)
  clear Bl HK
  have Bl := Blx
  have HK := HKx
  clear Blx HKx
  have l0 := Bl.out.cell 0
  have l1 := Bl.out.cell 1
  have l2 := Bl.out.cell 2
  simp at l0 l1 l2
  clear k3
  cases b with
  | false =>
    go_wp2_with (go_at_call 10; refine (CL.out _ (HT.out.keep HK.out)).mono ?_; rintro e w5 ⟨rfl, k5⟩; have K5 := kept k5; clear k5)
    go_ret
    exact ⟨rfl, HK.out.and_then K5.out⟩
  | true =>
    have hQ := HBF.out rfl
    have HFB := kept hQ.few.block
    have hnbF := hQ.few.nb
    have HFE := kept hQ.few
    clear hQ HBF CL
    have BL := Bl
    have hLT := Bl.out.lt
    clear l0 l1 l2 Bl
    have k3 : Keeps w4 (w4.alloc (.cells #[.int .i64 0, .int .i64 0, .int .i64 0, .int .i64 0, .int .i64 0, .int .i64 0, .int .i64 0, .int .i64 0] 31)) [] := (Keeps.refl w4 []).alloc _
    have BG := kept (Blk.new w4 31 #[.int .i64 0, .int .i64 0, .int .i64 0, .int .i64 0, .int .i64 0, .int .i64 0, .int .i64 0, .int .i64 0])
    have BLx := kept (BL.out.keep k3 (by simp))
    have HKx := kept (HK.out.and_then k3)
    clear k3 HK BL
    have BL := BLx
    have HK := HKx
    clear BLx HKx
    have l2 := BL.out.cell 2
    simp at l2
    go_wp2
    clear l2
    generalize w4.alloc (.cells #[.int .i64 0, .int .i64 0, .int .i64 0, .int .i64 0, .int .i64 0, .int .i64 0, .int .i64 0, .int .i64 0] 31) = W0 at *
    generalize hG : w4.heap.size = G at *
    clear hG
    have hGw : w.heap.size < G := by omega
    go_loopw [4, 5, 6, 26] (fun p n c i wr => ∃ k : Nat, k ≤ f.nb ∧ i = .int .i64 k ∧ p = .int .i64 (phT f k : Nat) ∧ n = .int .i64 (inT f k : Nat) ∧ c = .int .i64 (totO (opsT f k) : Nat) ∧ Keeps w wr [] ∧ Blk wr w.heap.size 26 #[.slice a0 f.nv c0, .slice a1 f.np c1, .slice a2 f.nb c2] ∧ Blk wr G 31 (cntV (opsT f k)) ∧ (opsT f k).length ≤ 400 * k ∧ phT f k ≤ 400 * k ∧ inT f k ≤ 400 * k) (fun _ _ _ i _ => f.nb - (intOf i).toNat)
    case atStart => exact ⟨0, Nat.zero_le _, rfl, rfl, rfl, rfl, HK.out, BL.out, BG.out, Nat.zero_le _, Nat.zero_le _, Nat.zero_le _⟩
    case round =>
      clear HK BL BG
      obtain ⟨k, hk, rfl, rfl, rfl, rfl, hK, hL, hC, hlen, hpl, hil⟩ := hrel
      have HK := kept hK
      have BL := kept hL
      have BC := kept hC
      have hltC := hC.lt
      clear hK hL hC
      by_cases hlt : k < f.nb
      · have hltz : (k : Int) < (f.nb : Int) := by omega
        obtain ⟨bb, off, rfl, hbl, hcell⟩ := HC2.out k (by rw [HNB.out]; exact hlt)
        have n0 := HK.out.cellOf (hcell 0 _ rfl)
        have n1 := HK.out.cellOf (hcell 1 _ rfl)
        have n2 := HK.out.cellOf (hcell 2 _ rfl)
        have n3 := HK.out.cellOf (hcell 3 _ rfl)
        have n4 := HK.out.cellOf (hcell 4 _ rfl)
        have n5 := HK.out.cellOf (hcell 5 _ rfl)
        have n6 := HK.out.cellOf (hcell 6 _ rfl)
        simp only [Nat.add_zero] at n0
        have hyb := HF.out.block _ (bang_mem (l := f.blocks.2) (k := k) (by rw [HNB.out]; exact hlt))
        have hfb := (HFB.out _ (bang_mem (l := f.blocks.2) (k := k) (by rw [HNB.out]; exact hlt)))
        have HST := kept (opsT_step f k hlt)
        have HP1 := kept (phT_step f k hlt)
        have HI1 := kept (inT_step f k hlt)
        clear hcell HC2
        generalize hy : f.blocks.2[k]! = y at *
        clear hy
        obtain ⟨pa, pc, pe, -, -, -⟩ := hyb.phis.open_
        obtain ⟨qa, qc, qe, -, -, hqc⟩ := hyb.insts.open_
        have HYB := kept hyb
        rw [pe] at n1
        rw [qe] at n2
        have HQC := kept hqc
        clear hyb pe qe hqc
        generalize hPN : y.phis.2.length = pn at *
        generalize hQN : y.insts.2.length = qn at *
        have HQN := kept hQN
        clear hPN hQN
        have h41 := hfb.1
        have h42 := hfb.2
        clear hfb
        generalize y.name = yn at *
        generalize y.kind = yk at *
        generalize y.var = yv at *
        generalize y.to0 = y0 at *
        generalize y.to1 = y1 at *
        generalize hLL : opsT f k = LL at *
        have HLL := kept hLL
        clear hLL
        generalize hPk : phT f k = PK at *
        generalize hIk : inT f k = IK at *
        have k3 : Keeps wr (wr.alloc (.cells #[.string yn, .slice pa pn pc, .slice qa qn qc, .int .i64 yk, .int .i64 yv, .int .i64 y0, .int .i64 y1] 39)) [] := (Keeps.refl wr []).alloc _
        have BMx := kept (Blk.new wr 39 #[.string yn, .slice pa pn pc, .slice qa qn qc, .int .i64 yk, .int .i64 yv, .int .i64 y0, .int .i64 y1])
        have BLx := kept (BL.out.keep k3 (by simp))
        have BCx := kept (BC.out.keep k3 (by simp))
        have HKx := kept (HK.out.and_then k3)
        clear k3 HK BL BC
        have BM := BMx
        have HK := HKx
        have BL := BLx
        have BC := BCx
        clear BMx HKx BLx BCx
        have l2 := BL.out.cell 2
        have m1 := BM.out.cell 1
        have m2 := BM.out.cell 2
        simp at l2 m1 m2
        go_wp2
        clear l2 m1 m2 n0 n1 n2 n3 n4 n5 n6
        obtain ⟨wo, hwo⟩ : ∃ wo : World, wo = wr := ⟨_, rfl⟩
        subst hwo
        generalize wo.alloc (.cells #[.string yn, .slice pa pn pc, .slice qa qn qc, .int .i64 yk, .int .i64 yv, .int .i64 y0, .int .i64 y1] 39) = WB at *
        go_loopw [5, 6, 38] (fun n c i wr => ∃ j : Nat, j ≤ qn ∧ i = .int .i64 j ∧ n = .int .i64 ((IK + j : Nat) : Int) ∧ c = .int .i64 (totO (LL ++ (opsB y).take j) : Nat) ∧ Keeps w wr [] ∧ Blk wr w.heap.size 26 #[.slice a0 f.nv c0, .slice a1 f.np c1, .slice (some ⟨bb, off, none⟩) f.nb c2] ∧ Blk wr G 31 (cntV (LL ++ (opsB y).take j)) ∧ Blk wr wo.heap.size 39 #[.string yn, .slice pa pn pc, .slice qa qn qc, .int .i64 yk, .int .i64 yv, .int .i64 y0, .int .i64 y1]) (fun _ _ i _ => qn - (intOf i).toNat)
        case atStart => exact ⟨0, Nat.zero_le _, rfl, rfl, by simp, HK.out, BL.out, by simpa using BC.out, BM.out⟩
        case round =>
          clear HK BL BC BM
          obtain ⟨j, hj, rfl, rfl, rfl, hK, hL, hC, hM⟩ := hrel
          have HK := kept hK
          have BL := kept hL
          have BC := kept hC
          have BM := kept hM
          clear hK hL hC hM
          by_cases hltj : j < qn
          · have hltjz : (j : Int) < (qn : Int) := by omega
            have HIT := kept (insts_take y j (by rw [HQN.out]; exact hltj))
            obtain ⟨pb, po, rfl, hpb, hpcell⟩ := HQC.out j hltj
            have n0 := HK.out.cellOf (hpcell 0 _ rfl)
            have n1 := HK.out.cellOf (hpcell 1 _ rfl)
            have n2 := HK.out.cellOf (hpcell 2 _ rfl)
            have n3 := HK.out.cellOf (hpcell 3 _ rfl)
            simp only [Nat.add_zero] at n0
            have hpa := HYB.out.inst _ (bang_mem (l := y.insts.2) (k := j) (by rw [HQN.out]; exact hltj))
            clear hpcell HQC
            generalize y.insts.2[j]! = p at *
            obtain ⟨u1, v1, e1, -⟩ := IntsAt.open_ hpa
            rw [e1] at n2
            clear e1 hpa
            generalize p.args.2.length = pna at *
            generalize p.op = pop at *
            generalize p.dst = pdst at *
            generalize p.num = pnum at *
            generalize hM : LL ++ (opsB y).take j = MM at *
            have HMM := kept (show LL ++ (opsB y).take (j + 1) = MM ++ [pop] by rw [HIT.out, ← List.append_assoc, hM])
            have hMl : MM.length ≤ 400 * k + j := by rw [← hM, List.length_append, List.length_take]; omega
            clear hM
            have HTO := kept (totO_snoc MM pop)
            have hto : totO MM ≤ MM.length := List.length_filter_le ..
            generalize totO MM = TT at *
            have k3 : Keeps wr (wr.alloc (.cells #[.int .i64 pop, .int .i64 pdst, .slice u1 pna v1, .int .i64 pnum] 42)) [] := (Keeps.refl wr []).alloc _
            have BQx := kept (Blk.new wr 42 #[.int .i64 pop, .int .i64 pdst, .slice u1 pna v1, .int .i64 pnum])
            have BLx := kept (BL.out.keep k3 (by simp))
            have BCx := kept (BC.out.keep k3 (by simp))
            have BMx := kept (BM.out.keep k3 (by simp))
            have HKx := kept (HK.out.and_then k3)
            clear k3 HK BL BC BM
            have BQ := BQx
            have HK := HKx
            have BL := BLx
            have BC := BCx
            have BM := BMx
            clear BQx HKx BLx BCx BMx
            have q0 := BQ.out.cell 0
            simp at q0
            cases hck : chkB pop with
            | false =>
              rw [hck] at HTO
              have CT := kept (fun w => refcheck_no pop hck w)
              go_wp2_with (go_at_call 17; refine (CT.out _).mono ?_; rintro e w3 ⟨rfl, rfl⟩)
              go_roundw
              case rel => exact ⟨j + 1, by omega, by go_num, by go_num, by rw [HMM.out, HTO.out]; rfl, HK.out, BL.out, by rw [HMM.out, cntV_no _ _ hck]; exact BC.out, BM.out⟩
              case measure => simp [intOf]; omega
            | true =>
              have CT := kept (fun w => refcheck_at pop hck w)
              have HCV := kept (cntV_yes MM pop hck)
              have hr8 : 18 ≤ pop ∧ pop ≤ 24 := by simpa [chkB] using hck
              rw [hck] at HTO
              generalize htt : (pop - 17).toNat = tt at *
              have ht8 : tt < 8 := by omega
              have ht8I : (tt : Int) < 8 := by omega
              have ht0I : (0 : Int) ≤ (tt : Int) := by omega
              have ht1I : (0 : Int) < (tt : Int) := by omega
              clear htt
              have hcl := cnt_le MM tt
              have ct0 := BC.out.cell tt
              rw [cntV_at _ _ ht8] at ct0
              have f0 := BC.out.frozen tt
              unfold cV at ct0
              have hC2 := BC.out.set_ tt (.int .i64 ((cntO MM tt + 1 : Nat) : Int))
              rw [← HCV.out] at hC2
              have HC9 := kept hC2
              clear hC2 HCV
              generalize cntO MM tt = cc at *
              go_wp2_with (go_at_call 17; refine (CT.out _).mono ?_; rintro e w3 ⟨rfl, rfl⟩)
              go_roundw
              case rel =>
                have h9 := HC9.out
                rw [Int.natCast_add] at h9
                refine ⟨j + 1, by omega, by go_num, by go_num, by rw [HMM.out, HTO.out]; go_num, HK.out.setCell (.inr (by show w.heap.size ≤ G; omega)) _, blk_other BL.out (by omega) _ _, by rw [HMM.out]; exact h9, blk_other BM.out (by omega) _ _⟩
              case measure => simp [intOf]; omega
          · have hltjz : ¬ (j : Int) < (qn : Int) := by omega
            obtain rfl : qn = j := by omega
            have hfin : LL ++ (opsB y).take qn = opsT f (k + 1) := by rw [HST.out, show (opsB y).take qn = opsB y from List.take_of_length_le (by unfold opsB; rw [List.length_map, HQN.out]; exact Nat.le_refl _)]
            have HFI := kept hfin
            clear hfin
            have hlen2 : Hid ((opsT f (k + 1)).length ≤ 400 * (k + 1)) := by show _ ≤ _; rw [HST.out, List.length_append]; unfold opsB; rw [List.length_map, HQN.out]; omega
            go_wp2
            go_roundw
            case rel => exact ⟨k + 1, by omega, by go_num, by rw [HP1.out]; go_num, by rw [HI1.out], by rw [← HFI.out], HK.out, BL.out, by rw [← HFI.out]; exact BC.out, hlen2.out, by rw [HP1.out]; omega, by rw [HI1.out]; omega⟩
            case measure => simp [intOf]; omega
      · have hltz : ¬ (k : Int) < (f.nb : Int) := by omega
        obtain rfl : f.nb = k := by omega
        clear HC2 hlt hk hlen hpl hil
        have CC1 := kept (CC.out wr (HF.out.keep HK.out) HFE.out)
        have CG1 := kept (fun W h => CG.out W h HFE.out)
        clear CC CG
        generalize opsT f f.nb = AA at *
        unfold cntV cV at CG1 BC
        generalize (cntO AA 0 : Int) = a0' at *
        generalize (cntO AA 1 : Int) = a1' at *
        generalize (cntO AA 2 : Int) = a2' at *
        generalize (cntO AA 3 : Int) = a3' at *
        generalize (cntO AA 4 : Int) = a4' at *
        generalize (cntO AA 5 : Int) = a5' at *
        generalize (cntO AA 6 : Int) = a6' at *
        generalize (cntO AA 7 : Int) = a7' at *
        generalize totO AA = TT at *
        generalize phT f f.nb = PP at *
        generalize inT f f.nb = II at *
        have Bl := BL
        have Bz := BC
        clear BL BC
        have l0 := Bl.out.cell 0
        have l1 := Bl.out.cell 1
        have l2 := Bl.out.cell 2
        have z0 := Bz.out.cell 0
        have z1 := Bz.out.cell 1
        have z2 := Bz.out.cell 2
        have z3 := Bz.out.cell 3
        have z4 := Bz.out.cell 4
        have z5 := Bz.out.cell 5
        have z6 := Bz.out.cell 6
        have z7 := Bz.out.cell 7
        simp at l0 l1 l2 z0 z1 z2 z3 z4 z5 z6 z7
        have he8 := fun w => eq8 a0' a1' a2' a3' a4' a5' a6' a7' w
        go_wp2_with (go_at_call 18; refine (CC1.out).mono ?_; rintro e w6 ⟨rfl, k3⟩; clear l0 l1 l2 z0 z1 z2 z3 z4 z5 z6 z7; have Blx := kept (Bl.out.keep k3 (by simp)); have Bzx := kept (Bz.out.keep k3 (by simp)); have HKx := kept (HK.out.and_then k3); clear Bl Bz HK; have Bl := Blx; have Bz := Bzx; have HK := HKx; clear Blx Bzx HKx; have l0 := Bl.out.cell 0; have l1 := Bl.out.cell 1; have l2 := Bl.out.cell 2; have z0 := Bz.out.cell 0; have z1 := Bz.out.cell 1; have z2 := Bz.out.cell 2; have z3 := Bz.out.cell 3; have z4 := Bz.out.cell 4; have z5 := Bz.out.cell 5; have z6 := Bz.out.cell 6; have z7 := Bz.out.cell 7; simp at l0 l1 l2 z0 z1 z2 z3 z4 z5 z6 z7; clear k3)
        refine wp_region_held_drew (S := (fun w' => w'.cell? ⟨w.heap.size, 0, none⟩ = some (.slice a0 f.nv c0) ∧ w'.cell? ⟨w.heap.size, 1, none⟩ = some (.slice a1 f.np c1) ∧ w'.cell? ⟨w.heap.size, 2, none⟩ = some (.slice a2 f.nb c2) ∧ w'.cell? ⟨G, 0, none⟩ = some (.int .i64 a0') ∧ w'.cell? ⟨G, 1, none⟩ = some (.int .i64 a1') ∧ w'.cell? ⟨G, 2, none⟩ = some (.int .i64 a2') ∧ w'.cell? ⟨G, 3, none⟩ = some (.int .i64 a3') ∧ w'.cell? ⟨G, 4, none⟩ = some (.int .i64 a4') ∧ w'.cell? ⟨G, 5, none⟩ = some (.int .i64 a5') ∧ w'.cell? ⟨G, 6, none⟩ = some (.int .i64 a6') ∧ w'.cell? ⟨G, 7, none⟩ = some (.int .i64 a7'))) (by kernel_rfl) ?ahSs (fun hHeld => ?_)
        case ahSs => exact ⟨l0, l1, l2, z0, z1, z2, z3, z4, z5, z6, z7⟩
        clear l0 l1 l2 z0 z1 z2 z3 z4 z5 z6 z7
        have Blx := kept (Bl.out.keep ((Keeps.refl _ []).drew) (by simp))
        have Bzx := kept (Bz.out.keep ((Keeps.refl _ []).drew) (by simp))
        have HKx := kept (HK.out.drew)
        clear Bl Bz HK
        have Bl := Blx
        have Bz := Bzx
        have HK := HKx
        clear Blx Bzx HKx
        generalize World.drew _ = X0 at *
        have l0 := Bl.out.cell 0
        have l1 := Bl.out.cell 1
        have l2 := Bl.out.cell 2
        have z0 := Bz.out.cell 0
        have z1 := Bz.out.cell 1
        have z2 := Bz.out.cell 2
        have z3 := Bz.out.cell 3
        have z4 := Bz.out.cell 4
        have z5 := Bz.out.cell 5
        have z6 := Bz.out.cell 6
        have z7 := Bz.out.cell 7
        simp at l0 l1 l2 z0 z1 z2 z3 z4 z5 z6 z7
        refine wpAnyH_take (i := 0) (oi := { dst := some 64, op := Op.move (Operand.tmp 12), type := 3, pos := "law.go:51", after := #[], guard := none }) (v := ?av0) rfl (by kernel_rfl) (by kernel_rfl) (by kernel_rfl) (fun _ _ _ h => h) (Or.inl ⟨by rfl, ?ay0⟩) hHeld ?ar0
        case ay0 => (intro w hSw; (try dsimp only at hSw); go_simp; (try with_reducible rfl))
        try simp only [Act.put, List.setIfInBounds_toArray, List.set_cons_zero, List.set_cons_succ]
        refine wpAnyH_take (i := 1) (oi := { dst := some 65, op := Op.move (Operand.tmp 4), type := 3, pos := "law.go:51", after := #[], guard := none }) (v := ?av1) rfl (by kernel_rfl) (by kernel_rfl) (by kernel_rfl) (fun _ _ _ h => h) (Or.inl ⟨by rfl, ?ay1⟩) hHeld ?ar1
        case ay1 => (intro w hSw; (try dsimp only at hSw); go_simp; (try with_reducible rfl))
        try simp only [Act.put, List.setIfInBounds_toArray, List.set_cons_zero, List.set_cons_succ]
        refine wpAnyH_take (i := 2) (oi := { dst := some 66, op := Op.binOp BinOp.eql 3 (Operand.tmp 64) (Operand.tmp 65) 3, type := 4, pos := "law.go:51", after := #[{ on := 0, ground := Ground.data }, { on := 1, ground := Ground.data }], guard := none }) (v := ?av2) rfl (by kernel_rfl) (by kernel_rfl) (by kernel_rfl) (fun _ _ _ h => h) (Or.inl ⟨by rfl, ?ay2⟩) hHeld ?ar2
        case ay2 => (intro w hSw; (try dsimp only at hSw); go_simp; (try with_reducible rfl))
        try simp only [Act.put, List.setIfInBounds_toArray, List.set_cons_zero, List.set_cons_succ]
        refine wpAnyH_take (i := 3) (oi := { dst := some 67, op := Op.move (Operand.tmp 66), type := 4, pos := "law.go:51", after := #[{ on := 2, ground := Ground.data }], guard := none }) (v := ?av3) rfl (by kernel_rfl) (by kernel_rfl) (by kernel_rfl) (fun _ _ _ h => h) (Or.inl ⟨by rfl, ?ay3⟩) hHeld ?ar3
        case ay3 => (intro w hSw; (try dsimp only at hSw); go_simp; (try with_reducible rfl))
        try simp only [Act.put, List.setIfInBounds_toArray, List.set_cons_zero, List.set_cons_succ]
        refine wpAnyH_take (i := 4) (oi := { dst := some 68, op := Op.move (Operand.tmp 13), type := 3, pos := "law.go:51", after := #[{ on := 3, ground := Ground.guard }], guard := some (3, true) }) (v := ?av4) rfl (by kernel_rfl) (by kernel_rfl) (by kernel_rfl) (fun _ _ _ h => h) (Or.inl ⟨by rfl, ?ay4⟩) hHeld ?ar4
        case ay4 => (intro w hSw; (try dsimp only at hSw); go_simp; (try with_reducible rfl))
        try simp only [Act.put, List.setIfInBounds_toArray, List.set_cons_zero, List.set_cons_succ]
        refine wpAnyH_take (i := 5) (oi := { dst := some 69, op := Op.move (Operand.tmp 5), type := 3, pos := "law.go:51", after := #[{ on := 3, ground := Ground.guard }], guard := some (3, true) }) (v := ?av5) rfl (by kernel_rfl) (by kernel_rfl) (by kernel_rfl) (fun _ _ _ h => h) (Or.inl ⟨by rfl, ?ay5⟩) hHeld ?ar5
        case ay5 => (intro w hSw; (try dsimp only at hSw); go_simp; (try with_reducible rfl))
        try simp only [Act.put, List.setIfInBounds_toArray, List.set_cons_zero, List.set_cons_succ]
        refine wpAnyH_take (i := 6) (oi := { dst := some 70, op := Op.binOp BinOp.eql 3 (Operand.tmp 68) (Operand.tmp 69) 3, type := 4, pos := "law.go:51", after := #[{ on := 4, ground := Ground.data }, { on := 5, ground := Ground.data }, { on := 3, ground := Ground.guard }], guard := some (3, true) }) (v := ?av6) rfl (by kernel_rfl) (by kernel_rfl) (by kernel_rfl) (fun _ _ _ h => h) (Or.inl ⟨by rfl, ?ay6⟩) hHeld ?ar6
        case ay6 => (intro w hSw; (try dsimp only at hSw); go_simp; (try with_reducible rfl))
        try simp only [Act.put, List.setIfInBounds_toArray, List.set_cons_zero, List.set_cons_succ]
        refine wpAnyH_take (i := 7) (oi := { dst := some 71, op := Op.pick (Operand.tmp 67) (Operand.tmp 70) (Operand.const (Value.bool false)), type := 4, pos := "law.go:51", after := #[{ on := 3, ground := Ground.data }, { on := 6, ground := Ground.data }], guard := none }) (v := ?av7) rfl (by kernel_rfl) (by kernel_rfl) (by kernel_rfl) (fun _ _ _ h => h) (Or.inl ⟨by rfl, ?ay7⟩) hHeld ?ar7
        case ay7 => (intro w hSw; (try dsimp only at hSw); go_simp; (try with_reducible rfl))
        try simp only [Act.put, List.setIfInBounds_toArray, List.set_cons_zero, List.set_cons_succ]
        refine wpAnyH_take (i := 8) (oi := { dst := some 72, op := Op.move (Operand.tmp 71), type := 4, pos := "law.go:51", after := #[{ on := 7, ground := Ground.data }, { on := 3, ground := Ground.chain }], guard := none }) (v := ?av8) rfl (by kernel_rfl) (by kernel_rfl) (by kernel_rfl) (fun _ _ _ h => h) (Or.inl ⟨by rfl, ?ay8⟩) hHeld ?ar8
        case ay8 => (intro w hSw; (try dsimp only at hSw); go_simp; (try with_reducible rfl))
        try simp only [Act.put, List.setIfInBounds_toArray, List.set_cons_zero, List.set_cons_succ]
        refine wpAnyH_take (i := 9) (oi := { dst := some 73, op := Op.move (Operand.tmp 14), type := 3, pos := "law.go:51", after := #[{ on := 8, ground := Ground.guard }], guard := some (8, true) }) (v := ?av9) rfl (by kernel_rfl) (by kernel_rfl) (by kernel_rfl) (fun _ _ _ h => h) (Or.inl ⟨by rfl, ?ay9⟩) hHeld ?ar9
        case ay9 => (intro w hSw; (try dsimp only at hSw); go_simp; (try with_reducible rfl))
        try simp only [Act.put, List.setIfInBounds_toArray, List.set_cons_zero, List.set_cons_succ]
        refine wpAnyH_take (i := 10) (oi := { dst := some 74, op := Op.move (Operand.tmp 6), type := 3, pos := "law.go:51", after := #[{ on := 8, ground := Ground.guard }], guard := some (8, true) }) (v := ?av10) rfl (by kernel_rfl) (by kernel_rfl) (by kernel_rfl) (fun _ _ _ h => h) (Or.inl ⟨by rfl, ?ay10⟩) hHeld ?ar10
        case ay10 => (intro w hSw; (try dsimp only at hSw); go_simp; (try with_reducible rfl))
        try simp only [Act.put, List.setIfInBounds_toArray, List.set_cons_zero, List.set_cons_succ]
        refine wpAnyH_take (i := 11) (oi := { dst := some 75, op := Op.binOp BinOp.eql 3 (Operand.tmp 73) (Operand.tmp 74) 3, type := 4, pos := "law.go:51", after := #[{ on := 9, ground := Ground.data }, { on := 10, ground := Ground.data }, { on := 8, ground := Ground.guard }], guard := some (8, true) }) (v := ?av11) rfl (by kernel_rfl) (by kernel_rfl) (by kernel_rfl) (fun _ _ _ h => h) (Or.inl ⟨by rfl, ?ay11⟩) hHeld ?ar11
        case ay11 => (intro w hSw; (try dsimp only at hSw); go_simp; (try with_reducible rfl))
        try simp only [Act.put, List.setIfInBounds_toArray, List.set_cons_zero, List.set_cons_succ]
        refine wpAnyH_take (i := 12) (oi := { dst := some 76, op := Op.pick (Operand.tmp 72) (Operand.tmp 75) (Operand.const (Value.bool false)), type := 4, pos := "law.go:51", after := #[{ on := 8, ground := Ground.data }, { on := 11, ground := Ground.data }], guard := none }) (v := ?av12) rfl (by kernel_rfl) (by kernel_rfl) (by kernel_rfl) (fun _ _ _ h => h) (Or.inl ⟨by rfl, ?ay12⟩) hHeld ?ar12
        case ay12 => (intro w hSw; (try dsimp only at hSw); go_simp; (try with_reducible rfl))
        try simp only [Act.put, List.setIfInBounds_toArray, List.set_cons_zero, List.set_cons_succ]
        refine wpAnyH_take (i := 13) (oi := { dst := some 77, op := Op.move (Operand.tmp 76), type := 4, pos := "law.go:51", after := #[{ on := 12, ground := Ground.data }, { on := 8, ground := Ground.chain }], guard := none }) (v := ?av13) rfl (by kernel_rfl) (by kernel_rfl) (by kernel_rfl) (fun _ _ _ h => h) (Or.inl ⟨by rfl, ?ay13⟩) hHeld ?ar13
        case ay13 => (intro w hSw; (try dsimp only at hSw); go_simp; (try with_reducible rfl))
        try simp only [Act.put, List.setIfInBounds_toArray, List.set_cons_zero, List.set_cons_succ]
        refine wpAnyH_take (i := 14) (oi := { dst := some 78, op := Op.load 26 (Operand.tmp 1), type := 26, pos := "law.go:51", after := #[{ on := 13, ground := Ground.guard }], guard := some (13, true) }) (v := ?av14) rfl (by kernel_rfl) (by kernel_rfl) (by kernel_rfl) (fun _ _ _ h => h) (Or.inl ⟨by rfl, ?ay14⟩) hHeld ?ar14
        case ay14 => (intro w hSw; (try dsimp only at hSw); go_simp; (try with_reducible rfl))
        try simp only [Act.put, List.setIfInBounds_toArray, List.set_cons_zero, List.set_cons_succ]
        refine wpAnyH_take (i := 16) (oi := { dst := some 80, op := Op.load 31 (Operand.tmp 3), type := 31, pos := "law.go:51", after := #[{ on := 13, ground := Ground.guard }], guard := some (13, true) }) (v := ?av16) rfl (by kernel_rfl) (by kernel_rfl) (by kernel_rfl) (fun _ _ _ h => h) (Or.inl ⟨by rfl, ?ay16⟩) hHeld ?ar16
        case ay16 => (intro w hSw; (try dsimp only at hSw); go_simp; (try with_reducible rfl))
        try simp only [Act.put, List.setIfInBounds_toArray, List.set_cons_zero, List.set_cons_succ]
        refine wpAnyH_ready (rs := [15]) (by kernel_rfl) (by simp) ?_
        refine AllReadyH.cons (o := { dst := some 79, op := Op.call { callee := Callee.value (Operand.func 19), args := #[Operand.tmp 78], argTypes := #[26] }, type := 31, pos := "law.go:51", after := #[{ on := 14, ground := Ground.data }, { on := 13, ground := Ground.chain }, { on := 13, ground := Ground.guard }], guard := some (13, true) }) rfl (fun K hK => ?_) AllReadyH.nil
        go_simp
        (with_reducible refine (CG1.out _ (HF.out.keep HK.out)).mono ?_)
        rintro e wx ⟨rfl, k3⟩
        show K _ _
        clear hHeld
        clear l0 l1 l2 z0 z1 z2 z3 z4 z5 z6 z7
        have Blx := kept (Bl.out.keep k3 (by simp))
        have Bzx := kept (Bz.out.keep k3 (by simp))
        have HKx := kept (HK.out.and_then k3)
        clear Bl Bz HK
        have Bl := Blx
        have Bz := Bzx
        have HK := HKx
        clear Blx Bzx HKx
        have l0 := Bl.out.cell 0
        have l1 := Bl.out.cell 1
        have l2 := Bl.out.cell 2
        have z0 := Bz.out.cell 0
        have z1 := Bz.out.cell 1
        have z2 := Bz.out.cell 2
        have z3 := Bz.out.cell 3
        have z4 := Bz.out.cell 4
        have z5 := Bz.out.cell 5
        have z6 := Bz.out.cell 6
        have z7 := Bz.out.cell 7
        simp at l0 l1 l2 z0 z1 z2 z3 z4 z5 z6 z7
        clear k3
        refine hK.out _ _ ?ahS15 (fun hHeld => ?_)
        case ahS15 => exact ⟨l0, l1, l2, z0, z1, z2, z3, z4, z5, z6, z7⟩
        clear hK K
        try simp only [Act.put, List.setIfInBounds_toArray, List.set_cons_zero, List.set_cons_succ]
        refine wpAnyH_take (i := 17) (oi := { dst := some 81, op := Op.binOp BinOp.eql 31 (Operand.tmp 79) (Operand.tmp 80) 31, type := 4, pos := "law.go:51", after := #[{ on := 15, ground := Ground.data }, { on := 16, ground := Ground.data }, { on := 13, ground := Ground.guard }], guard := some (13, true) }) (v := ?av17) rfl (by kernel_rfl) (by kernel_rfl) (by kernel_rfl) (fun _ _ _ h => h) (Or.inl ⟨by rfl, ?ay17⟩) hHeld ?ar17
        case ay17 => (intro w hSw; (try dsimp only at hSw); go_simp; (try with_reducible rfl))
        try simp only [Act.put, List.setIfInBounds_toArray, List.set_cons_zero, List.set_cons_succ]
        refine wpAnyH_take (i := 18) (oi := { dst := some 82, op := Op.pick (Operand.tmp 77) (Operand.tmp 81) (Operand.const (Value.bool false)), type := 4, pos := "law.go:51", after := #[{ on := 13, ground := Ground.data }, { on := 17, ground := Ground.data }], guard := none }) (v := ?av18) rfl (by kernel_rfl) (by kernel_rfl) (by kernel_rfl) (fun _ _ _ h => h) (Or.inl ⟨by rfl, ?ay18⟩) hHeld ?ar18
        case ay18 => (intro w hSw; (try dsimp only at hSw); go_simp; (try with_reducible rfl))
        try simp only [Act.put, List.setIfInBounds_toArray, List.set_cons_zero, List.set_cons_succ]
        refine wpAnyH_take (i := 19) (oi := { dst := some 2, op := Op.assign (Operand.tmp 82), type := 4, pos := "law.go:51", after := #[{ on := 18, ground := Ground.data }, { on := 15, ground := Ground.chain }, { on := 0, ground := Ground.phase }, { on := 1, ground := Ground.phase }, { on := 2, ground := Ground.phase }, { on := 3, ground := Ground.phase }, { on := 4, ground := Ground.phase }, { on := 5, ground := Ground.phase }, { on := 6, ground := Ground.phase }, { on := 7, ground := Ground.phase }, { on := 8, ground := Ground.phase }, { on := 9, ground := Ground.phase }, { on := 10, ground := Ground.phase }, { on := 11, ground := Ground.phase }, { on := 12, ground := Ground.phase }, { on := 13, ground := Ground.phase }, { on := 14, ground := Ground.phase }, { on := 15, ground := Ground.phase }, { on := 16, ground := Ground.phase }, { on := 17, ground := Ground.phase }, { on := 18, ground := Ground.phase }], guard := none }) (v := ?av19) rfl (by kernel_rfl) (by kernel_rfl) (by kernel_rfl) (fun _ _ _ h => h) (Or.inl ⟨by rfl, ?ay19⟩) hHeld ?ar19
        case ay19 => (intro w hSw; (try dsimp only at hSw); go_simp; (try with_reducible rfl))
        try simp only [Act.put, List.setIfInBounds_toArray, List.set_cons_zero, List.set_cons_succ]
        refine wpAnyH_done (by kernel_rfl) ?_ _
        clear hHeld
        go_wp2
        go_ret
        exact ⟨rfl, HK.out⟩
end Go.Proofs.YtjllbchfojonhaaDoor
