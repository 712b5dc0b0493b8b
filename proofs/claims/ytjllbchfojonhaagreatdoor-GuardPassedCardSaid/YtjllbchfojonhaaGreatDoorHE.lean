/- The law 'GuardPassed': the walk. -/
import Derived.Test.YtjllbchfojonhaaGreatDoorHX
import Derived.Deep.CutBlock
import Derived.Deep.Cut
namespace Go.Proofs.YtjllbchfojonhaaGreatDoor
open Go.RowKit Go.Shelf Go.Lib
set_option linter.unusedVariables false
set_option linter.unusedSimpArgs false

theorem any_ahead (f : FuncM) (l : List InstM) (x : InstM) (hc : chkB x.op = true) : (collectI l).any (sameB x.chk) = aheadB f x l := by
  rw [Bool.eq_iff_iff]
  unfold aheadB
  rw [List.any_eq_true, List.any_eq_true]
  constructor
  · rintro ⟨c, hm, hs⟩
    obtain ⟨_, y, hy, rfl⟩ := collect_of l c hm
    obtain ⟨h1, h2⟩ := sameB_iff.1 hs
    exact ⟨y, hy, isB_iff.2 ⟨h1.symm, h2.symm⟩⟩
  · rintro ⟨y, hy, hi⟩
    obtain ⟨h1, h2⟩ := isB_iff.1 hi
    obtain ⟨d, hd, hs⟩ := List.any_eq_true.1 (collect_mem l y hy (by rw [h1]; exact hc))
    obtain ⟨h3, h4⟩ := sameB_iff.1 hs
    exact ⟨d, hd, sameB_iff.2 ⟨h1.symm.trans h3, h2.symm.trans h4⟩⟩
theorem collect_pre (l : List InstM) : ∀ r : List InstM, ∃ s, collectI (l ++ r) = collectI l ++ s :=
  snoc_ind ⟨[], by simp⟩ fun r x ih => by
    obtain ⟨s, hs⟩ := ih
    rw [← List.append_assoc, collect_snoc, hs]
    unfold addC
    split
    · exact ⟨s ++ [x.chk], by rw [List.append_assoc]⟩
    · exact ⟨s, rfl⟩
noncomputable def cntG (f : FuncM) (b pl : Nat) (l : List InstM) : Nat := ((collectI l).filter (goodD f b pl)).length
section
variable {f : FuncM} {b pl : Nat} {l : List InstM} {x : InstM}
open Classical in
theorem goodD_chk : goodD f b pl x.chk = true ↔ GoodP f x.op x.args.2 b pl := by unfold goodD; rw [decide_eq_true_eq]; exact Iff.rfl
theorem cnt_skip (h : chkB x.op = false ∨ aheadB f x l = true ∨ ¬ GoodP f x.op x.args.2 b pl) : cntG f b pl (l ++ [x]) = cntG f b pl l := by
  unfold cntG
  rw [collect_snoc]
  unfold addC
  split
  · rename_i h0
    rw [Bool.and_eq_true, Bool.not_eq_true'] at h0
    rcases h with h | h | h
    · rw [h] at h0; cases h0.1
    · rw [any_ahead f l x h0.1, h] at h0; cases h0.2
    · rw [List.filter_append, List.filter_cons_of_neg (fun e => h (goodD_chk.1 e)), List.filter_nil, List.append_nil]
  · rfl
theorem cnt_take (h1 : chkB x.op = true) (h2 : aheadB f x l = false) (h3 : GoodP f x.op x.args.2 b pl) : cntG f b pl (l ++ [x]) = cntG f b pl l + 1 := by
  unfold cntG
  rw [collect_snoc]
  unfold addC
  rw [if_pos (by rw [h1, any_ahead f l x h1, h2]; rfl), List.filter_append, List.filter_cons_of_pos (goodD_chk.2 h3), List.filter_nil, List.length_append, List.length_singleton]
theorem key_take {r : List InstM} (h1 : chkB x.op = true) (h2 : aheadB f x l = false) (h3 : GoodP f x.op x.args.2 b pl) (hr : instsF f = l ++ [x] ++ r) :
    cntG f b pl l < (((collectF f).filter (goodD f b pl)).map CheckM.key).length ∧ (((collectF f).filter (goodD f b pl)).map CheckM.key)[cntG f b pl l]! = (x.op, x.args.2) := by
  obtain ⟨s, hs⟩ := collect_pre (l ++ [x]) r
  have h4 : collectF f = collectI l ++ [x.chk] ++ s := by
    unfold collectF; rw [hr, hs, collect_snoc]
    unfold addC
    rw [if_pos (by rw [h1, any_ahead f l x h1, h2]; rfl)]
  rw [h4, List.filter_append, List.filter_append, List.filter_cons_of_pos (goodD_chk.2 h3), List.filter_nil, List.map_append, List.map_append]
  have h5 : cntG f b pl l = (((collectI l).filter (goodD f b pl)).map CheckM.key).length := by unfold cntG; rw [List.length_map]
  rw [h5]
  refine ⟨by simp only [List.length_append, List.map_singleton, List.length_singleton]; omega, ?_⟩
  rw [getElem!_pos _ _ (by simp only [List.length_append, List.map_singleton, List.length_singleton]; omega), List.getElem_append_left (by simp), List.getElem_append_right (Nat.le_refl _)]
  simp [CheckM.key, InstM.chk]
end
theorem preI_rest {f : FuncM} {k j : Nat} (hk : k < f.nb) (hj : j < f.blocks.2[k]!.insts.2.length) : ∃ r, instsF f = preI f k j ++ [f.blocks.2[k]!.insts.2[j]!] ++ r := by
  obtain ⟨r, hr⟩ := preI_pre (f := f) (k := k) (j := j + 1) (by omega) (fun e => by omega)
  exact ⟨r, by rw [hr, preI_snoc hj]⟩
theorem cnt_nil (f : FuncM) (b pl : Nat) : cntG f b pl [] = 0 := rfl
theorem cnt_all (f : FuncM) (b pl : Nat) : cntG f b pl (instsF f) = (((collectF f).filter (goodD f b pl)).map CheckM.key).length := by rw [List.length_map]; rfl
theorem chk_pos {op : Int} (h : chkB op = true) : 18 ≤ op ∧ op ≤ 24 := by unfold chkB at h; rw [Bool.and_eq_true, decide_eq_true_eq, decide_eq_true_eq] at h; exact h
theorem ck_open {f : FuncM} {b p : Int} {w : World} {v : Value} (h : CkRet f b p w v) : ∃ (l : List CheckM) (a : Option Addr) (c : Nat), v = .slice a l.length c ∧ Row w 2 (.slice a l.length c) (l.map CheckM.cells) ∧ (∀ d ∈ l, IntsAt w d.args) ∧ l.map CheckM.key = passedL f b p := by
  obtain ⟨l, hr, hl, hk⟩ := h
  have hr2 := hr
  obtain ⟨a, c, rfl, -⟩ := hr
  rw [List.length_map] at hr2 ⊢
  exact ⟨l, a, c, rfl, hr2, hl, hk⟩

set_option maxRecDepth 100000 in
set_option maxHeartbeats 200000000 in
theorem walkGuardPassed (f : FuncM) (b p : Int) (w : World) (ht : Tabs w) (hf : FuncAt w f) : Calls Tryz.prog 3 #[f.val, .int .i64 b, .int .i64 p] w fun e w' => e = .returned (.bool true) ∧ Keeps w w' [] := by
  have CLv := kept (fun W h => lives8_any W h)
  have C9 := kept (fun W h1 (h2 : FuncAt W f) => typed10_any f W h1 h2)
  have C10 := kept (fun (hT : typed10 f = true) W h1 (h2 : FuncAt W f) => passed_any f b p W h1 h2 (few_p (typed10_iff.1 hT).1))
  have C11 := kept (fun (hT : typed10 f = true) W (h2 : FuncAt W f) => reached11_any f W h2 (ends_ok (typed10_iff.1 hT).2 (few_p (typed10_iff.1 hT).1)).pos (ends_ok (typed10_iff.1 hT).2 (few_p (typed10_iff.1 hT).1)).nb)
  have HTB := kept ht
  obtain ⟨a0, c0, e0, -, -, hc0⟩ := hf.vars.open_
  obtain ⟨a1, c1, e1, -, -, hc1⟩ := (show Row w 1 f.params.1 (f.params.2.map intCells) from hf.params).open_
  obtain ⟨a2, c2, e2, -, -, hc2⟩ := hf.blocks.open_
  have hval : f.val = .agg #[.slice a0 f.nv c0, .slice a1 f.np c1, .slice a2 f.nb c2] := by unfold FuncM.val FuncM.nv FuncM.np FuncM.nb; rw [e0, e1, e2]
  have h1 : #[f.vars.1, f.params.1, f.blocks.1] = #[.slice a0 f.nv c0, .slice a1 f.np c1, .slice a2 f.nb c2] := by unfold FuncM.nv FuncM.np FuncM.nb; rw [e0, e1, e2]
  have HF := kept hf
  have HC0 := kept hc0
  have HC1 := kept hc1
  have HC2 := kept hc2
  have HNV := kept (show f.vars.2.length = f.nv from rfl)
  have HNP := kept (show f.params.2.length = f.np from rfl)
  have HNB := kept (show f.blocks.2.length = f.nb from rfl)
  rw [hval] at C9 C10 C11 ⊢
  have HVAL := kept hval
  clear hval h1 e0 e1 e2 hc0 hc1 hc2 hf HC0 HC1 ht
  have hk0 : Keeps w (w.alloc (.cells #[.slice a0 f.nv c0, .slice a1 f.np c1, .slice a2 f.nb c2] 26)) [] := (Keeps.refl _ []).alloc _
  have bb0 := Blk.new w 26 #[.slice a0 f.nv c0, .slice a1 f.np c1, .slice a2 f.nb c2]
  have Bl := kept bb0
  have HK := kept hk0
  obtain ⟨l0, l1, l2⟩ := Bl.out.c3
  simp at l0 l1 l2
  clear hk0 bb0
  go_enter Tryz.func3, Tryz.ntmps3
  cases hT : typed10 f with
  | false =>
    rw [hT] at C9
    clear C10 C11 hT
    go_wp2_with (first | (go_at_call 8; refine (CLv.out _ (HTB.out.keep HK.out)).mono ?_; rintro e w3 ⟨rfl, k3⟩; clear l0 l1 l2; replace Bl := kept (Bl.out.keep k3 (by simp)); replace HK := kept (HK.out.and_then k3); obtain ⟨l0, l1, l2⟩ := Bl.out.c3; simp at l0 l1 l2; clear k3) | (go_at_call 9; refine (C9.out _ (HTB.out.keep HK.out) (HF.out.keep HK.out)).mono ?_; rintro e w3 ⟨rfl, k3⟩; clear l0 l1 l2; replace Bl := kept (Bl.out.keep k3 (by simp)); replace HK := kept (HK.out.and_then k3); obtain ⟨l0, l1, l2⟩ := Bl.out.c3; simp at l0 l1 l2; clear k3))
    go_ret
    exact ⟨rfl, HK.out⟩
  | true =>
    have HTT := kept hT
    rw [hT] at C9
    have C10x := kept (C10.out hT)
    have C11x := kept (C11.out hT)
    have HFW := kept (few_p (typed10_iff.1 hT).1)
    have HTE := kept (typed10_iff.1 hT).2
    clear C10 C11 hT
    go_upto_region 4 with (first | (go_at_call 8; refine (CLv.out _ (HTB.out.keep HK.out)).mono ?_; rintro e w3 ⟨rfl, k3⟩; clear l0 l1 l2; replace Bl := kept (Bl.out.keep k3 (by simp)); replace HK := kept (HK.out.and_then k3); obtain ⟨l0, l1, l2⟩ := Bl.out.c3; simp at l0 l1 l2; clear k3) | (go_at_call 9; refine (C9.out _ (HTB.out.keep HK.out) (HF.out.keep HK.out)).mono ?_; rintro e w3 ⟨rfl, k3⟩; clear l0 l1 l2; replace Bl := kept (Bl.out.keep k3 (by simp)); replace HK := kept (HK.out.and_then k3); obtain ⟨l0, l1, l2⟩ := Bl.out.c3; simp at l0 l1 l2; clear k3) | (go_at_call 10; refine (C10x.out _ (HTB.out.keep HK.out) (HF.out.keep HK.out)).mono ?_; rintro e w3 ⟨⟨pv, rfl, hck⟩, k3⟩; obtain ⟨l, la, lc, rfl, hrow, hla, hkey⟩ := ck_open hck; have HRW := kept hrow; have HLA := kept hla; have HKY := kept hkey; clear hck hrow hla hkey; clear l0 l1 l2; replace Bl := kept (Bl.out.keep k3 (by simp)); replace HK := kept (HK.out.and_then k3); obtain ⟨l0, l1, l2⟩ := Bl.out.c3; simp at l0 l1 l2; clear k3))
    clear CLv C9 C10x
    obtain ⟨W4, hW4⟩ : ∃ W4 : World, W4 = w3 := ⟨_, rfl⟩
    subst hW4
    clear l0 l1 l2
    have Bl_W4 := Bl
    have TW4 := HK
    clear HK
    have HK := kept (Keeps.refl W4 [])
    obtain ⟨l0, l1, l2⟩ := Bl.out.c3
    simp at l0 l1 l2
    by_cases hb0 : b < 0
    · have HZ := kept (show l.length = 0 by have h9 := HKY.out; rw [passed_no (fun h => by have h9 := h.2.1; omega)] at h9; have h8 := congrArg List.length h9; simpa using h8)
      have hzz : ((l.length : Int) == 0) = true := by have h9 := HZ.out; simp [h9]
      go_wp2_with (first | fail)
      go_ret
      exact ⟨by first | rfl | exact ret_bool hzz, (TW4.out.and_then HK.out)⟩
    by_cases hbn : (f.nb : Int) ≤ b
    · have HZ := kept (show l.length = 0 by have h9 := HKY.out; rw [passed_no (fun h => by have h9 := h.2.2.1; omega)] at h9; have h8 := congrArg List.length h9; simpa using h8)
      have hzz : ((l.length : Int) == 0) = true := by have h9 := HZ.out; simp [h9]
      go_wp2_with (first | fail)
      go_ret
      exact ⟨by first | rfl | exact ret_bool hzz, (TW4.out.and_then HK.out)⟩
    by_cases hp0 : p < 0
    · have HZ := kept (show l.length = 0 by have h9 := HKY.out; rw [passed_no (fun h => by have h9 := h.2.2.2.1; omega)] at h9; have h8 := congrArg List.length h9; simpa using h8)
      have hzz : ((l.length : Int) == 0) = true := by have h9 := HZ.out; simp [h9]
      go_wp2_with (first | fail)
      go_ret
      exact ⟨by first | rfl | exact ret_bool hzz, (TW4.out.and_then HK.out)⟩
    obtain ⟨bn, rfl⟩ : ∃ bn : Nat, b = bn := ⟨b.toNat, by omega⟩
    obtain ⟨pl, rfl⟩ : ∃ pl : Nat, p = pl := ⟨p.toNat, by omega⟩
    have hbl : bn < f.nb := by omega
    have HCB := kept HC2.out
    obtain ⟨bb, off, e8, hbb, hbc⟩ := HC2.out bn (by rw [HNB.out]; exact hbl)
    obtain rfl := e8
    obtain ⟨qa, qc, qe, -, -, -⟩ := (HF.out.block _ (bang_mem (l := f.blocks.2) (k := bn) hbl)).insts.open_
    have m2 := (TW4.out.and_then HK.out).cellOf (hbc 2 _ rfl)
    rw [qe] at m2
    clear hbc HC2 qe
    obtain ⟨qn, hqn⟩ : ∃ z, (f.blocks.2[bn]!).insts.2.length = z := ⟨_, rfl⟩
    rw [hqn] at m2
    have HQN := kept hqn
    clear hqn
    by_cases hpq : (qn : Int) < (pl : Int)
    · have HZ := kept (show l.length = 0 by have h9 := HKY.out; rw [passed_no (fun h => by have h9 := h.2.2.2.2.1; rw [Int.toNat_natCast, HQN.out] at h9; omega)] at h9; have h8 := congrArg List.length h9; simpa using h8)
      have hzz : ((l.length : Int) == 0) = true := by have h9 := HZ.out; simp [h9]
      go_wp2_with (first | fail)
      go_ret
      exact ⟨by first | rfl | exact ret_bool hzz, (TW4.out.and_then HK.out)⟩
    have hplq : pl ≤ qn := by omega
    have hbz : (bn : Int) < (f.nb : Int) := by omega
    by_cases hrch : RWay (succF f) bn
    · have HRC := kept hrch
      clear hrch
      go_upto_region 6 with (first | (go_at_call 11; refine (C11x.out _ (HF.out.keep (TW4.out.and_then HK.out))).mono ?_; rintro e w3 ⟨⟨rg, rfl, th, hB, hR⟩, k3⟩; have BR := kept hB; have HR := kept hR; clear hB hR; have r0 := bitR_cell BR.out (k := bn) (by rw [HR.out.len]; exact hbl); have HTP := kept (show th[bn]! = th[bn]! from rfl); generalize htp : th[bn]! = tp at r0; replace HTP := kept htp; clear htp; have htt : tp = true := (by have h9 := HTP.out; rw [← h9]; exact (HR.out.mem bn hbl).2 HRC.out); subst htt; clear l0 l1 l2; replace Bl := kept (Bl.out.keep k3 (by simp)); replace HK := kept (HK.out.and_then k3); obtain ⟨l0, l1, l2⟩ := Bl.out.c3; simp at l0 l1 l2; clear k3))
      clear C11x m2 r0 HTP BR HR th
      have HKL := kept (show l.map CheckM.key = ((collectF f).filter (goodD f bn pl)).map CheckM.key by have h9 := HKY.out; rw [h9]; unfold passedL; rw [if_pos ⟨HTE.out, by omega, by omega, by omega, by rw [Int.toNat_natCast, HQN.out]; omega, by rw [Int.toNat_natCast]; exact HRC.out⟩, Int.toNat_natCast, Int.toNat_natCast])
      have HLL := kept (show l.length = (((collectF f).filter (goodD f bn pl)).map CheckM.key).length by rw [← HKL.out, List.length_map])
      have HBD := kept (few_insts HFW.out).2
      have hnbF := HFW.out.nb
      have CC := kept (fun (x : InstM) W (hx : 0 ≤ x.op ∧ x.op < 27) => refcheck_any x.op W (by omega))
      have CE := kept (fun (x : InstM) (i k : Nat) W (h1 : FuncAt W f) (h2 : InstAt W x) (h3 : i < f.nb) (h4 : k ≤ 100000) => earlier13_any f x i k W h1 h2 h3 (by omega) h4 (fun b hb => (HBD.out b hb).2))
      have CG := kept (fun (x : InstM) W (h1 : FuncAt W f) (h2 : IntsAt W x.args) => good14_any f x.op x.args bn pl W h1 h2 (by omega) hbl (by rw [HQN.out]; exact hplq) (fun b hb => by have h9 := HFW.out.block b hb; omega))
      have CI := kept (fun (x : InstM) (d : CheckM) W (h1 : InstAt W x) (h2 : IntsAt W d.args) => is15_any x d.op d.args W h1 h2)
      rw [HVAL.out] at CE CG
      clear HKY HVAL
      go_wp2
      go_loopw [8, 63] (fun a' i' wx => ∃ (i at9 : Nat), i ≤ f.nb ∧ i' = .int .i64 i ∧ a' = .int .i64 at9 ∧ Hid (at9 = cntG f bn pl (preI f i 0)) ∧ Keeps W4 wx []) (fun _ i' _ => f.nb - (intOf i').toNat)
      case atStart => exact ⟨0, 0, Nat.zero_le _, rfl, rfl, by rw [preI_zero]; exact (cnt_nil f bn pl).symm, HK.out⟩
      case round =>
        obtain ⟨i, at9, hi, rfl, rfl, hAT, hr⟩ := hrel
        have HAT := kept hAT.out
        clear hAT
        clear l0 l1 l2
        clear Bl HK
        have HK := kept hr
        have Bl := kept (Bl_W4.out.keep hr (by simp))
        clear hr
        obtain ⟨l0, l1, l2⟩ := Bl.out.c3
        simp at l0 l1 l2
        by_cases hli : i < f.nb
        · have hliz : (i : Int) < (f.nb : Int) := by omega
          obtain ⟨yb, yo, e8, hyb, hbc⟩ := HCB.out i (by rw [HNB.out]; exact hli)
          simp only [Option.some.injEq, Addr.mk.injEq] at e8
          obtain ⟨rfl, rfl, -⟩ := e8
          have HYA := kept (HF.out.block _ (bang_mem (l := f.blocks.2) (k := i) hli))
          obtain ⟨ia, ic, ie, -, -, hic⟩ := HYA.out.insts.open_
          have HIC := kept hic
          obtain ⟨pa, pc, pe, -, -, -⟩ := HYA.out.phis.open_
          have y0 := (TW4.out.and_then HK.out).cellOf (hbc 0 _ rfl)
          have y1 := (TW4.out.and_then HK.out).cellOf (hbc 1 _ rfl)
          have y2 := (TW4.out.and_then HK.out).cellOf (hbc 2 _ rfl)
          have y3 := (TW4.out.and_then HK.out).cellOf (hbc 3 _ rfl)
          have y4 := (TW4.out.and_then HK.out).cellOf (hbc 4 _ rfl)
          have y5 := (TW4.out.and_then HK.out).cellOf (hbc 5 _ rfl)
          have y6 := (TW4.out.and_then HK.out).cellOf (hbc 6 _ rfl)
          simp only [Nat.add_zero] at y0
          rw [pe] at y1
          rw [ie] at y2
          clear hbc HCB pe ie hic
          have hil := (HBD.out i hli).2
          have HPS := kept (fun k (hk : k < f.blocks.2[i]!.insts.2.length) => preI_snoc (f := f) (k := i) hk)
          have HPR := kept (fun k (hk : k < f.blocks.2[i]!.insts.2.length) => preI_rest hli hk)
          have HPN := kept (preI_next (f := f) hli)
          have HXO := kept (fun k (hk : k < f.blocks.2[i]!.insts.2.length) => (inst_ok HTE.out hli hk).1)
          generalize f.blocks.2[i]! = y at *
          obtain ⟨yn, hyn⟩ : ∃ z, y.name = z := ⟨_, rfl⟩
          rw [hyn] at y0
          clear hyn
          generalize y.phis.2.length = pn at *
          generalize hyl : y.insts.2.length = yil at *
          have HYL := kept hyl
          clear hyl
          generalize y.kind = yk at *
          generalize y.var = yv at *
          generalize y.to0 = yt0 at *
          generalize y.to1 = yt1 at *
          go_upto_region 10 with (fail)
          clear y0 y1 y2 y3 y4 y5 y6
          clear l0 l1 l2
          have bmx := Blk.new wr 38 #[.string yn, .slice pa pn pc, .slice ia yil ic, .int .i64 yk, .int .i64 yv, .int .i64 yt0, .int .i64 yt1]
          have k3 : Keeps wr (wr.alloc (.cells #[.string yn, .slice pa pn pc, .slice ia yil ic, .int .i64 yk, .int .i64 yv, .int .i64 yt0, .int .i64 yt1] 38)) [] := (Keeps.refl wr []).alloc _
          replace Bl := kept (Bl.out.keep k3 (by simp))
          replace HK := kept (HK.out.and_then k3)
          have By := kept bmx
          clear k3 bmx
          obtain ⟨l0, l1, l2⟩ := Bl.out.c3
          obtain ⟨y0, y1, y2, y3, y4, y5, y6⟩ := By.out.c7
          simp at l0 l1 l2 y0 y1 y2 y3 y4 y5 y6
          generalize hWX : (wr.alloc (.cells #[.string yn, .slice pa pn pc, .slice ia yil ic, .int .i64 yk, .int .i64 yv, .int .i64 yt0, .int .i64 yt1] 38)) = W5 at *
          clear hWX
          generalize wr.heap.size = by9 at *
          clear l0 l1 l2 y0 y1 y2 y3 y4 y5 y6
          obtain ⟨l0, l1, l2⟩ := Bl.out.c3
          obtain ⟨y0, y1, y2, y3, y4, y5, y6⟩ := By.out.c7
          simp at l0 l1 l2 y0 y1 y2 y3 y4 y5 y6
          clear l0 l1 l2 y0 y1 y2 y3 y4 y5 y6
          have Bl_W5 := Bl
          have By_W5 := By
          have TW5 := HK
          clear HK
          have HK := kept (Keeps.refl W5 [])
          obtain ⟨l0, l1, l2⟩ := Bl.out.c3
          obtain ⟨y0, y1, y2, y3, y4, y5, y6⟩ := By.out.c7
          simp at l0 l1 l2 y0 y1 y2 y3 y4 y5 y6
          go_wp2
          go_loopw [8, 71] (fun a' i' wx => ∃ (k at9 : Nat), k ≤ yil ∧ i' = .int .i64 k ∧ a' = .int .i64 at9 ∧ Hid (at9 = cntG f bn pl (preI f i k)) ∧ Keeps W5 wx []) (fun _ i' _ => yil - (intOf i').toNat)
          case atStart => exact ⟨0, at9, Nat.zero_le _, rfl, rfl, HAT.out, HK.out⟩
          case round =>
            obtain ⟨k, at9, hk, rfl, rfl, hAT, hr⟩ := hrel
            clear HAT
            have HAT := kept hAT.out
            clear hAT
            clear l0 l1 l2 y0 y1 y2 y3 y4 y5 y6
            clear Bl By HK
            have HK := kept hr
            have Bl := kept (Bl_W5.out.keep hr (by simp))
            have By := kept (By_W5.out.keep hr (by simp))
            clear hr
            obtain ⟨l0, l1, l2⟩ := Bl.out.c3
            obtain ⟨y0, y1, y2, y3, y4, y5, y6⟩ := By.out.c7
            simp at l0 l1 l2 y0 y1 y2 y3 y4 y5 y6
            by_cases hlk : k < yil
            · have hlkz : (k : Int) < (yil : Int) := by omega
              obtain ⟨jb, jo, e8, hjb, hcell⟩ := HIC.out k (by first | exact hlk | (rw [HYL.out]; exact hlk))
              obtain rfl := e8
              have hxa := HYA.out.inst _ (bang_mem (l := y.insts.2) (k := k) (by first | exact hlk | (rw [HYL.out]; exact hlk)))
              have HPSk := kept (HPS.out k hlk)
              have HPRk := kept (HPR.out k hlk)
              have HXOk := kept (HXO.out k hlk)
              have n0 := (TW4.out.and_then (TW5.out.and_then HK.out)).cellOf (hcell 0 _ rfl)
              have n1 := (TW4.out.and_then (TW5.out.and_then HK.out)).cellOf (hcell 1 _ rfl)
              have n2 := (TW4.out.and_then (TW5.out.and_then HK.out)).cellOf (hcell 2 _ rfl)
              have n3 := (TW4.out.and_then (TW5.out.and_then HK.out)).cellOf (hcell 3 _ rfl)
              simp only [Nat.add_zero] at n0
              obtain ⟨ua, va1, e1, -, -, -⟩ := Row.open_ (M := Int) (cells := intCells) (show Row w 1 y.insts.2[k]!.args.1 (y.insts.2[k]!.args.2.map intCells) from hxa)
              rw [e1] at n2
              have HXA := kept (show IntsAt w y.insts.2[k]!.args from hxa)
              have CEx := kept (fun W h1 h2 => CE.out y.insts.2[k]! i k W h1 h2 hli (by omega))
              have CGx := kept (fun W h1 h2 => CG.out y.insts.2[k]! W h1 h2)
              have CIx := kept (fun d W h1 h2 => CI.out y.insts.2[k]! d W h1 h2)
              have CCx := kept (fun W => CC.out y.insts.2[k]! W HXOk.out)
              rw [e1] at CEx CGx CIx
              clear hcell hxa e1 HIC HPS HPR HXO CE CG CI CC
              generalize y.insts.2[k]! = x at *
              have HXI := kept (fun W (hW : Keeps w W []) => (show InstAt W x from Row.keep (show Row w 1 x.args.1 (x.args.2.map intCells) from HXA.out) hW))
              have HXJ := kept (fun W (hW : Keeps w W []) => (show IntsAt W x.args from Row.keep (show Row w 1 x.args.1 (x.args.2.map intCells) from HXA.out) hW))
              go_upto_region 13 with (fail)
              clear n0 n1 n2 n3
              clear l0 l1 l2 y0 y1 y2 y3 y4 y5 y6
              have bmx := Blk.new wr 43 #[.int .i64 x.op, .int .i64 x.dst, .slice ua x.args.2.length va1, .int .i64 x.num]
              have k3 : Keeps wr (wr.alloc (.cells #[.int .i64 x.op, .int .i64 x.dst, .slice ua x.args.2.length va1, .int .i64 x.num] 43)) [] := (Keeps.refl wr []).alloc _
              replace Bl := kept (Bl.out.keep k3 (by simp))
              replace By := kept (By.out.keep k3 (by simp))
              replace HK := kept (HK.out.and_then k3)
              have Bx := kept bmx
              clear k3 bmx
              obtain ⟨l0, l1, l2⟩ := Bl.out.c3
              obtain ⟨y0, y1, y2, y3, y4, y5, y6⟩ := By.out.c7
              obtain ⟨x0, x1, x2, x3⟩ := Bx.out.c4
              simp at l0 l1 l2 y0 y1 y2 y3 y4 y5 y6 x0 x1 x2 x3
              generalize hWX : (wr.alloc (.cells #[.int .i64 x.op, .int .i64 x.dst, .slice ua x.args.2.length va1, .int .i64 x.num] 43)) = W6 at *
              clear hWX
              generalize wr.heap.size = bx9 at *
              clear l0 l1 l2 y0 y1 y2 y3 y4 y5 y6 x0 x1 x2 x3
              obtain ⟨l0, l1, l2⟩ := Bl.out.c3
              obtain ⟨y0, y1, y2, y3, y4, y5, y6⟩ := By.out.c7
              obtain ⟨x0, x1, x2, x3⟩ := Bx.out.c4
              simp at l0 l1 l2 y0 y1 y2 y3 y4 y5 y6 x0 x1 x2 x3
              cases hck : chkB x.op with
              | false =>
                have HCK := kept hck
                rw [hck] at CCx
                simp only [Bool.false_eq_true, if_false] at CCx
                clear hck CEx CGx CIx
                go_wp2_with (first | (go_at_call 12; go_must (refine (CCx.out _).mono ?_); rintro e w7 ⟨rfl, rfl⟩))
                go_roundw
                case rel => exact ⟨k + 1, at9, by omega, by go_num, by first | rfl | trivial, (show Hid _ from by show at9 = _; rw [HPSk.out, cnt_skip (.inl HCK.out)]; exact HAT.out), HK.out⟩
                case measure => simp [intOf]; omega
              | true =>
                have HCK := kept hck
                rw [hck] at CCx
                simp only [if_true] at CCx
                have hop := chk_pos hck
                have hob : ((x.op - 17) == 0) = false := beq_eq_false_iff_ne.2 (show x.op - 17 ≠ 0 by omega)
                clear hck
                cases hah : aheadB f x (preI f i k) with
                | true =>
                  have HAH := kept hah
                  rw [hah] at CEx
                  clear hah CGx CIx
                  go_wp2_with (first | (go_at_call 12; go_must (refine (CCx.out _).mono ?_); rintro e w7 ⟨rfl, rfl⟩) | (go_at_call 13; refine (CEx.out _ (HF.out.keep (TW4.out.and_then (TW5.out.and_then HK.out))) (HXI.out _ (TW4.out.and_then (TW5.out.and_then HK.out)))).mono ?_; rintro e w3 ⟨rfl, k3⟩; clear l0 l1 l2 y0 y1 y2 y3 y4 y5 y6 x0 x1 x2 x3; replace Bl := kept (Bl.out.keep k3 (by simp)); replace By := kept (By.out.keep k3 (by simp)); replace Bx := kept (Bx.out.keep k3 (by simp)); replace HK := kept (HK.out.and_then k3); obtain ⟨l0, l1, l2⟩ := Bl.out.c3; obtain ⟨y0, y1, y2, y3, y4, y5, y6⟩ := By.out.c7; obtain ⟨x0, x1, x2, x3⟩ := Bx.out.c4; simp at l0 l1 l2 y0 y1 y2 y3 y4 y5 y6 x0 x1 x2 x3; clear k3))
                  go_roundw
                  case rel => exact ⟨k + 1, at9, by omega, by go_num, by first | rfl | trivial, (show Hid _ from by show at9 = _; rw [HPSk.out, cnt_skip (.inr (.inl HAH.out))]; exact HAT.out), HK.out⟩
                  case measure => simp [intOf]; omega
                | false =>
                  have HAH := kept hah
                  rw [hah] at CEx
                  clear hah
                  by_cases hgp : GoodP f x.op x.args.2 bn pl
                  · have HGP := kept hgp
                    clear hgp
                    go_upto_region 14 with (first | (go_at_call 12; go_must (refine (CCx.out _).mono ?_); rintro e w7 ⟨rfl, rfl⟩) | (go_at_call 13; refine (CEx.out _ (HF.out.keep (TW4.out.and_then (TW5.out.and_then HK.out))) (HXI.out _ (TW4.out.and_then (TW5.out.and_then HK.out)))).mono ?_; rintro e w3 ⟨rfl, k3⟩; clear l0 l1 l2 y0 y1 y2 y3 y4 y5 y6 x0 x1 x2 x3; replace Bl := kept (Bl.out.keep k3 (by simp)); replace By := kept (By.out.keep k3 (by simp)); replace Bx := kept (Bx.out.keep k3 (by simp)); replace HK := kept (HK.out.and_then k3); obtain ⟨l0, l1, l2⟩ := Bl.out.c3; obtain ⟨y0, y1, y2, y3, y4, y5, y6⟩ := By.out.c7; obtain ⟨x0, x1, x2, x3⟩ := Bx.out.c4; simp at l0 l1 l2 y0 y1 y2 y3 y4 y5 y6 x0 x1 x2 x3; clear k3) | (go_at_call 14; refine (CGx.out _ (HF.out.keep (TW4.out.and_then (TW5.out.and_then HK.out))) (HXJ.out _ (TW4.out.and_then (TW5.out.and_then HK.out)))).mono ?_; rintro e w3 ⟨⟨gv, rfl, hgv⟩, k3⟩; obtain rfl : gv = true := hgv.2 HGP.out; clear hgv; clear l0 l1 l2 y0 y1 y2 y3 y4 y5 y6 x0 x1 x2 x3; replace Bl := kept (Bl.out.keep k3 (by simp)); replace By := kept (By.out.keep k3 (by simp)); replace Bx := kept (Bx.out.keep k3 (by simp)); replace HK := kept (HK.out.and_then k3); obtain ⟨l0, l1, l2⟩ := Bl.out.c3; obtain ⟨y0, y1, y2, y3, y4, y5, y6⟩ := By.out.c7; obtain ⟨x0, x1, x2, x3⟩ := Bx.out.c4; simp at l0 l1 l2 y0 y1 y2 y3 y4 y5 y6 x0 x1 x2 x3; clear k3))
                    clear CCx CEx CGx
                    obtain ⟨rr, hrr⟩ := HPRk.out
                    obtain ⟨hat1, hat2⟩ := key_take HCK.out HAH.out HGP.out hrr
                    have HCT := kept (cnt_take HCK.out HAH.out HGP.out)
                    rw [← HLL.out, ← HAT.out] at hat1
                    rw [← HKL.out, ← HAT.out] at hat2
                    clear hrr
                    have hatz : (at9 : Int) < (l.length : Int) := by omega
                    have hatn : ¬ (l.length : Int) ≤ (at9 : Int) := by omega
                    obtain ⟨ra, rc2, re, -, hrm, hrc⟩ := HRW.out.open_
                    simp only [Value.slice.injEq] at re
                    obtain ⟨rfl, -, rfl⟩ := re
                    have hlB : l.length ≤ 9223372036854775000 := by have h9 := HLL.out; rw [List.length_map] at h9; have h8 := List.length_filter_le (goodD f bn pl) (collectF f); have h7 := collect_len (instsF f); have h6 := (few_insts HFW.out).1; show l.length ≤ _; rw [h9]; unfold collectF at *; omega
                    obtain ⟨db, dof, rfl, hdb, hdc⟩ := hrc at9 hat1
                    have HD0 := kept (hdc 0 _ rfl)
                    have HD1 := kept (hdc 1 _ rfl)
                    simp only [Nat.add_zero] at HD0
                    have hda := HLA.out _ (bang_mem hat1)
                    have hdk : l[at9]!.key = (x.op, x.args.2) := (show (l.map CheckM.key)[at9]! = l[at9]!.key by rw [getElem!_pos (l.map CheckM.key) at9 (by rw [List.length_map]; exact hat1), List.getElem_map, getElem!_pos l at9 hat1]).symm.trans hat2
                    have CId := kept (fun W h1 h2 => CIx.out l[at9]! W h1 h2)
                    generalize l[at9]! = d at *
                    have hde : isB x d.op d.args.2 = true := isB_iff.2 ⟨(congrArg Prod.fst hdk).symm, (congrArg Prod.snd hdk).symm⟩
                    rw [hde] at CId
                    have HDW := kept (fun W (hW : Keeps W4 W []) => (show IntsAt W d.args from Row.keep (show Row W4 1 d.args.1 (d.args.2.map intCells) from hda) hW))
                    clear hdc hrc hda hdk hde hat2 CIx
                    obtain ⟨dop, hdop⟩ : ∃ z, d.op = z := ⟨_, rfl⟩
                    obtain ⟨dar, hdar⟩ : ∃ z, d.args.1 = z := ⟨_, rfl⟩
                    have HD0x : Hid (W4.cell? ⟨db, dof + at9 * 2, none⟩ = some (.int .i64 dop)) := kept (by rw [← hdop]; exact HD0.out)
                    have HD1x : Hid (W4.cell? ⟨db, dof + at9 * 2 + 1, none⟩ = some dar) := kept (by rw [← hdar]; exact HD1.out)
                    rw [hdop, hdar] at CId
                    clear HD0 HD1 hdop hdar
                    clear l0 l1 l2 y0 y1 y2 y3 y4 y5 y6 x0 x1 x2 x3
                    obtain ⟨l0, l1, l2⟩ := Bl.out.c3
                    obtain ⟨y0, y1, y2, y3, y4, y5, y6⟩ := By.out.c7
                    obtain ⟨x0, x1, x2, x3⟩ := Bx.out.c4
                    simp at l0 l1 l2 y0 y1 y2 y3 y4 y5 y6 x0 x1 x2 x3
                    have d0 := (TW5.out.and_then HK.out).cellOf HD0x.out
                    have d1 := (TW5.out.and_then HK.out).cellOf HD1x.out
                    refine wp_region_held_drew (S := (fun w' => w'.cell? ⟨w.heap.size, 0, none⟩ = some (.slice a0 f.nv c0) ∧ w'.cell? ⟨w.heap.size, 1, none⟩ = some (.slice a1 f.np c1) ∧ w'.cell? ⟨w.heap.size, 2, none⟩ = some (.slice (some ⟨bb, off, none⟩) f.nb c2) ∧ w'.cell? ⟨by9, 0, none⟩ = some (.string yn) ∧ w'.cell? ⟨by9, 1, none⟩ = some (.slice pa pn pc) ∧ w'.cell? ⟨by9, 2, none⟩ = some (.slice (some ⟨jb, jo, none⟩) yil ic) ∧ w'.cell? ⟨by9, 3, none⟩ = some (.int .i64 yk) ∧ w'.cell? ⟨by9, 4, none⟩ = some (.int .i64 yv) ∧ w'.cell? ⟨by9, 5, none⟩ = some (.int .i64 yt0) ∧ w'.cell? ⟨by9, 6, none⟩ = some (.int .i64 yt1) ∧ w'.cell? ⟨bx9, 0, none⟩ = some (.int .i64 x.op) ∧ w'.cell? ⟨bx9, 1, none⟩ = some (.int .i64 x.dst) ∧ w'.cell? ⟨bx9, 2, none⟩ = some (.slice ua x.args.2.length va1) ∧ w'.cell? ⟨bx9, 3, none⟩ = some (.int .i64 x.num) ∧ w'.cell? ⟨db, dof + at9 * 2, none⟩ = some (.int .i64 dop) ∧ w'.cell? ⟨db, dof + at9 * 2 + 1, none⟩ = some (dar))) (by kernel_rfl) ?bhSs (fun hHeld => ?_)
                    case bhSs => exact ⟨l0, l1, l2, y0, y1, y2, y3, y4, y5, y6, x0, x1, x2, x3, d0, d1⟩
                    clear l0 l1 l2 y0 y1 y2 y3 y4 y5 y6 x0 x1 x2 x3 d0 d1
                    replace Bl := kept (Bl.out.keep ((Keeps.refl _ []).drew) (by simp))
                    replace By := kept (By.out.keep ((Keeps.refl _ []).drew) (by simp))
                    replace Bx := kept (Bx.out.keep ((Keeps.refl _ []).drew) (by simp))
                    replace HK := kept (HK.out.drew)
                    generalize World.drew _ = X0 at *
                    obtain ⟨l0, l1, l2⟩ := Bl.out.c3
                    obtain ⟨y0, y1, y2, y3, y4, y5, y6⟩ := By.out.c7
                    obtain ⟨x0, x1, x2, x3⟩ := Bx.out.c4
                    simp at l0 l1 l2 y0 y1 y2 y3 y4 y5 y6 x0 x1 x2 x3
                    have d0 := (TW5.out.and_then HK.out).cellOf HD0x.out
                    have d1 := (TW5.out.and_then HK.out).cellOf HD1x.out
                    refine tl 0 ⟨some 98, .move (.tmp 8), 3, "law.go:64", #[], none⟩ rfl hHeld ?_
                    refine tl 1 ⟨some 99, .move (.tmp 7), 29, "law.go:64", #[], none⟩ rfl hHeld ?_
                    refine tl 2 ⟨some 100, .call ⟨.builtin .len, #[.tmp 99], #[29]⟩, 3, "law.go:64", #[⟨1, .data⟩], none⟩ rfl hHeld ?_
                    refine tl 3 ⟨some 101, .binOp BinOp.geq 3 (.tmp 98) (.tmp 100) 3, 4, "law.go:64", #[⟨0, .data⟩, ⟨2, .data⟩], none⟩ rfl hHeld ?_
                    refine tl 4 ⟨some 102, .move (.tmp 101), 4, "law.go:64", #[⟨3, .data⟩], none⟩ rfl hHeld ?_
                    refine tl 5 ⟨some 103, .load 43 (.tmp 12), 43, "law.go:64", #[⟨4, .guard⟩], some (4, false)⟩ rfl hHeld ?_
                    refine tl 6 ⟨some 104, .move (.tmp 7), 29, "law.go:64", #[⟨4, .guard⟩], some (4, false)⟩ rfl hHeld ?_
                    refine tl 7 ⟨some 105, .move (.tmp 8), 3, "law.go:64", #[⟨4, .guard⟩], some (4, false)⟩ rfl hHeld ?_
                    refine tl 8 ⟨some 106, .indexAddr 29 (.tmp 104) (.tmp 105), 0, "law.go:64", #[⟨6, .data⟩, ⟨7, .data⟩, ⟨4, .guard⟩], some (4, false)⟩ rfl hHeld ?_
                    refine tl 9 ⟨some 107, .fieldAddr 49 (.tmp 106) 0, 0, "law.go:64", #[⟨8, .data⟩, ⟨4, .guard⟩], some (4, false)⟩ rfl hHeld ?_
                    refine tl 10 ⟨some 108, .load 41 (.tmp 107), 41, "law.go:64", #[⟨9, .data⟩, ⟨4, .guard⟩], some (4, false)⟩ rfl hHeld ?_
                    refine tl 11 ⟨some 109, .move (.tmp 7), 29, "law.go:64", #[⟨4, .guard⟩], some (4, false)⟩ rfl hHeld ?_
                    refine tl 12 ⟨some 110, .move (.tmp 8), 3, "law.go:64", #[⟨4, .guard⟩], some (4, false)⟩ rfl hHeld ?_
                    refine tl 13 ⟨some 111, .indexAddr 29 (.tmp 109) (.tmp 110), 0, "law.go:64", #[⟨11, .data⟩, ⟨12, .data⟩, ⟨4, .guard⟩], some (4, false)⟩ rfl hHeld ?_
                    refine tl 14 ⟨some 112, .fieldAddr 49 (.tmp 111) 1, 0, "law.go:64", #[⟨13, .data⟩, ⟨4, .guard⟩], some (4, false)⟩ rfl hHeld ?_
                    refine tl 15 ⟨some 113, .load 23 (.tmp 112), 23, "law.go:64", #[⟨14, .data⟩, ⟨4, .guard⟩], some (4, false)⟩ rfl hHeld ?_
                    refine wpAnyH_ready (rs := [16]) (by kernel_rfl) (by simp) ?_
                    refine AllReadyH.cons (o := ⟨some 114, .call ⟨.value (.func 15), #[.tmp 103, .tmp 108, .tmp 113], #[43, 41, 23]⟩, 4, "law.go:64", #[⟨5, .data⟩, ⟨10, .data⟩, ⟨15, .data⟩, ⟨4, .chain⟩, ⟨4, .guard⟩], some (4, false)⟩) rfl (fun K hK => ?_) AllReadyH.nil
                    go_simp
                    (with_reducible refine (CId.out _ (HXI.out _ (TW4.out.and_then (TW5.out.and_then HK.out))) (HDW.out _ (TW5.out.and_then HK.out))).mono ?_)
                    rintro e wx ⟨rfl, k3⟩
                    show K _ _
                    clear hHeld
                    clear l0 l1 l2 y0 y1 y2 y3 y4 y5 y6 x0 x1 x2 x3 d0 d1
                    replace Bl := kept (Bl.out.keep k3 (by simp))
                    replace By := kept (By.out.keep k3 (by simp))
                    replace Bx := kept (Bx.out.keep k3 (by simp))
                    replace HK := kept (HK.out.and_then k3)
                    obtain ⟨l0, l1, l2⟩ := Bl.out.c3
                    obtain ⟨y0, y1, y2, y3, y4, y5, y6⟩ := By.out.c7
                    obtain ⟨x0, x1, x2, x3⟩ := Bx.out.c4
                    simp at l0 l1 l2 y0 y1 y2 y3 y4 y5 y6 x0 x1 x2 x3
                    have d0 := (TW5.out.and_then HK.out).cellOf HD0x.out
                    have d1 := (TW5.out.and_then HK.out).cellOf HD1x.out
                    clear k3
                    refine hK.out _ _ ?bhS16 (fun hHeld => ?_)
                    case bhS16 => exact ⟨l0, l1, l2, y0, y1, y2, y3, y4, y5, y6, x0, x1, x2, x3, d0, d1⟩
                    clear hK K
                    try simp only [Act.put, sA, sB, sC]
                    refine tl 17 ⟨some 115, .unOp UnOp.not 4 (.tmp 114), 4, "law.go:64", #[⟨16, .data⟩, ⟨4, .guard⟩], some (4, false)⟩ rfl hHeld ?_
                    refine tl 18 ⟨some 116, .pick (.tmp 102) (.const (Value.bool true)) (.tmp 115), 4, "law.go:64", #[⟨4, .data⟩, ⟨17, .data⟩], none⟩ rfl hHeld ?_
                    refine wpAnyH_done (by kernel_rfl) ?_ _
                    clear hHeld
                    clear hatz
                    go_wp2
                    go_roundw
                    case rel => exact ⟨k + 1, at9 + 1, by omega, by go_num, by go_num, (show Hid _ from by show at9 + 1 = _; rw [HPSk.out, HCT.out, ← HAT.out]), HK.out⟩
                    case measure => simp [intOf]; omega
                  · have HGP := kept hgp
                    clear hgp CIx
                    go_wp2_with (first | (go_at_call 12; go_must (refine (CCx.out _).mono ?_); rintro e w7 ⟨rfl, rfl⟩) | (go_at_call 13; refine (CEx.out _ (HF.out.keep (TW4.out.and_then (TW5.out.and_then HK.out))) (HXI.out _ (TW4.out.and_then (TW5.out.and_then HK.out)))).mono ?_; rintro e w3 ⟨rfl, k3⟩; clear l0 l1 l2 y0 y1 y2 y3 y4 y5 y6 x0 x1 x2 x3; replace Bl := kept (Bl.out.keep k3 (by simp)); replace By := kept (By.out.keep k3 (by simp)); replace Bx := kept (Bx.out.keep k3 (by simp)); replace HK := kept (HK.out.and_then k3); obtain ⟨l0, l1, l2⟩ := Bl.out.c3; obtain ⟨y0, y1, y2, y3, y4, y5, y6⟩ := By.out.c7; obtain ⟨x0, x1, x2, x3⟩ := Bx.out.c4; simp at l0 l1 l2 y0 y1 y2 y3 y4 y5 y6 x0 x1 x2 x3; clear k3) | (go_at_call 14; refine (CGx.out _ (HF.out.keep (TW4.out.and_then (TW5.out.and_then HK.out))) (HXJ.out _ (TW4.out.and_then (TW5.out.and_then HK.out)))).mono ?_; rintro e w3 ⟨⟨gv, rfl, hgv⟩, k3⟩; obtain rfl : gv = false := (by rw [← Bool.not_eq_true]; exact fun e => HGP.out (hgv.1 e)); clear hgv; clear l0 l1 l2 y0 y1 y2 y3 y4 y5 y6 x0 x1 x2 x3; replace Bl := kept (Bl.out.keep k3 (by simp)); replace By := kept (By.out.keep k3 (by simp)); replace Bx := kept (Bx.out.keep k3 (by simp)); replace HK := kept (HK.out.and_then k3); obtain ⟨l0, l1, l2⟩ := Bl.out.c3; obtain ⟨y0, y1, y2, y3, y4, y5, y6⟩ := By.out.c7; obtain ⟨x0, x1, x2, x3⟩ := Bx.out.c4; simp at l0 l1 l2 y0 y1 y2 y3 y4 y5 y6 x0 x1 x2 x3; clear k3))
                    go_roundw
                    case rel => exact ⟨k + 1, at9, by omega, by go_num, by first | rfl | trivial, (show Hid _ from by show at9 = _; rw [HPSk.out, cnt_skip (.inr (.inr HGP.out))]; exact HAT.out), HK.out⟩
                    case measure => simp [intOf]; omega
            · have hlkz : ¬ (k : Int) < (yil : Int) := by omega
              obtain rfl : k = yil := by omega
              go_wp2
              go_roundw
              case rel => exact ⟨i + 1, at9, by omega, by go_num, by first | rfl | trivial, (show Hid _ from by show at9 = _; rw [HPN.out]; exact HAT.out), TW5.out.and_then HK.out⟩
              case measure => simp [intOf]; omega
        · have hliz : ¬ (i : Int) < (f.nb : Int) := by omega
          obtain rfl : i = f.nb := by omega
          have hat : at9 = l.length := by have h9 := HAT.out; rw [preI_end, cnt_all, ← HLL.out] at h9; exact h9
          subst hat
          go_wp2
          go_ret
          exact ⟨ret_bool (by simp), (TW4.out.and_then HK.out)⟩
    · have HRC := kept hrch
      clear hrch
      have HZ := kept (show l.length = 0 by have h9 := HKY.out; rw [passed_no (fun h => HRC.out (by have h8 := h.2.2.2.2.2; rwa [Int.toNat_natCast] at h8))] at h9; have h8 := congrArg List.length h9; simpa using h8)
      have hzz : ((l.length : Int) == 0) = true := by have h9 := HZ.out; simp [h9]
      go_wp2_with (first | (go_at_call 11; refine (C11x.out _ (HF.out.keep (TW4.out.and_then HK.out))).mono ?_; rintro e w3 ⟨⟨rg, rfl, th, hB, hR⟩, k3⟩; have BR := kept hB; have HR := kept hR; clear hB hR; have r0 := bitR_cell BR.out (k := bn) (by rw [HR.out.len]; exact hbl); have HTP := kept (show th[bn]! = th[bn]! from rfl); generalize htp : th[bn]! = tp at r0; replace HTP := kept htp; clear htp; have htf : tp = false := (by have h9 := HTP.out; rw [← h9, ← Bool.not_eq_true]; intro e; exact HRC.out ((HR.out.mem bn hbl).1 e)); subst htf; clear l0 l1 l2; replace Bl := kept (Bl.out.keep k3 (by simp)); replace HK := kept (HK.out.and_then k3); obtain ⟨l0, l1, l2⟩ := Bl.out.c3; simp at l0 l1 l2; clear k3))
      go_ret
      exact ⟨by first | rfl | exact ret_bool hzz, (TW4.out.and_then HK.out)⟩
end Go.Proofs.YtjllbchfojonhaaGreatDoor
