/- All checks of a program, and which are good where (guard.look); the walk. -/
import Derived.Test.YtjllbchfojonhaaGreatDoorGU
import Derived.Deep.CutBlock
import Derived.Deep.Cut
import Derived.Deep.CutRange
import Derived.Deep.LoopGhost
namespace Go.Proofs.YtjllbchfojonhaaGreatDoor
open Go.RowKit Go.Shelf Go.Lib
set_option linter.unusedVariables false
set_option linter.unusedSimpArgs false
theorem info39c : (Tryz.prog.info? 39).map (fun i => (i.zero, i.size, i.bytes)) = some (some (.slice none 0 0), 1, 24) := by kernel_rfl
set_option maxRecDepth 100000 in
set_option maxHeartbeats 200000000 in
theorem look_any (f : FuncM) (w : World) (ht : Tabs w) (hf : FuncAt w f) (hfew : FewP f) (hT : typedE f = 0) (hN : (instsF f).length ≤ 100000) (hbd : ∀ b, b < f.nb → f.blocks.2[b]!.phis.2.length ≤ 100000 ∧ f.blocks.2[b]!.insts.2.length ≤ 100000) :
  Calls Tryz.prog 34 #[f.val] w fun e w' => (∃ L, e = .returned (.pointer (some ⟨L, 0, none⟩)) ∧ LookRet f w' L) ∧ Keeps w w' [] := by
 have hE := ends_ok hT hfew
 have hp := hE.pos
 have hn := hE.nb
 have HE := kept hE
 have HNC := kept (show (collectF f).length ≤ 100000 from Nat.le_trans (collect_len _) hN)
 have CC := kept (fun W (h : FuncAt W f) => collect_any f W h hN hn)
 have CRe := kept (fun W h1 (h2 : FuncAt W f) => reachT_any f W h1 h2 hfew hT)
 have CPr := kept (fun W h1 (h2 : FuncAt W f) => predsT_any f W h1 h2 hfew hT)
 have COr := kept (fun W h1 (h2 : FuncAt W f) => orderT_any f W h1 h2 hfew hT)
 have HTB := kept ht
 have HBD := kept hbd
 have HLA := kept (fun W (h : FuncAt W f) (d : CheckM) (hd : d ∈ collectF f) => coll_args h (k := f.nb) (j := 0) (Nat.le_refl _) (fun _ => rfl) (by rw [preI_end]; exact hd))
 have HFV := kept (show #[f.vars.1, f.params.1, f.blocks.1] = #[f.vars.1, f.params.1, f.blocks.1] from rfl)
 obtain ⟨a0, c0, a1, c1, a2, c2, e0, e1, e2, hval, h1, HF, HC0, HC1, HC2, HNV, HNP, HNB⟩ := fopen hf
 have HFV := kept (show f.vars.1 = .slice a0 f.nv c0 ∧ f.params.1 = .slice a1 f.np c1 ∧ f.blocks.1 = .slice a2 f.nb c2 from ⟨e0, e1, e2⟩)
 rw [hval] at CC CRe CPr COr ⊢
 clear hval h1 e0 e1 e2 hf HC0 HC1 HC2 ht hT hN hbd hE
 obtain ⟨cs, hcs⟩ : ∃ cs, collectF f = cs := ⟨_, rfl⟩
 have HCS := kept hcs
 obtain ⟨nc, hncs⟩ : ∃ nc, cs.length = nc := ⟨_, rfl⟩
 have HN := kept hncs
 have hnc : nc ≤ 100000 := by have h9 := HNC.out; rw [hcs, hncs] at h9; exact h9
 rw [hcs] at CC
 simp only [hcs] at HLA
 rw [hncs] at CC
 clear hcs hncs HNC
 obtain ⟨HK, Bl⟩ := fbox w 26 #[.slice a0 f.nv c0, .slice a1 f.np c1, .slice a2 f.nb c2]
 obtain ⟨l0, l1, l2⟩ := Bl.out.c3
 simp at l0 l1 l2
 go_enter Tryz.func34, Tryz.ntmps34
 go_upto_region 1 with (fail)
 have hszw : w.heap.size ≤ (w.alloc (.cells #[.slice a0 f.nv c0, .slice a1 f.np c1, .slice a2 f.nb c2] 26)).heap.size := by show _ ≤ (Array.push _ _).size; simp [Array.size_push]
 clear l0 l1 l2
 generalize (w.alloc (.cells #[.slice a0 f.nv c0, .slice a1 f.np c1, .slice a2 f.nb c2] 26)) = W0 at *
 have Bl_W0 := Bl
 have TW0 := HK
 clear HK
 have HK := kept (Keeps.refl W0 [])
 obtain ⟨l0, l1, l2⟩ := Bl.out.c3
 simp at l0 l1 l2
 have HSW := kept hszw
 clear hszw
 go_cut [3] from 10 to 16 (fun t3 wx => ∃ L lv tv th, t3 = .pointer (some ⟨L, 0, none⟩) ∧ Hid (Blk wx L 89 #[.slice a0 f.nv c0, .slice a1 f.np c1, .slice a2 f.nb c2, lv, tv, .slice none 0 0]) ∧ Hid (wx.ownsRow W0.heap.size 49 2 lv nc (cellsC cs)) ∧ Hid (wx.ownsRow W0.heap.size 4 1 tv f.nb (bitV th)) ∧ Hid (ReachOK f th) ∧ W0.heap.size ≤ L ∧ Keeps W0 wx [])
 case first =>
  refine wp_region_held_drew (S := (fun w' => w'.cell? ⟨w.heap.size, 0, none⟩ = some (.slice a0 f.nv c0) ∧ w'.cell? ⟨w.heap.size, 1, none⟩ = some (.slice a1 f.np c1) ∧ w'.cell? ⟨w.heap.size, 2, none⟩ = some (.slice a2 f.nb c2))) (by kernel_rfl) ?ghS (fun hHeld => ?_)
  case ghS => exact ⟨l0, l1, l2⟩
  clear l0 l1 l2
  replace Bl := kept (Bl.out.keep ((Keeps.refl _ []).drew) (by simp))
  replace HK := kept (HK.out.drew)
  generalize World.drew _ = X0 at *
  have l0 := Bl.out.cell 0
  have l1 := Bl.out.cell 1
  have l2 := Bl.out.cell 2
  simp at l0 l1 l2
  refine tp 0 10 rfl hHeld ?_
  refine tp 1 11 rfl hHeld ?_
  refine tp 3 13 rfl hHeld ?_
  refine t2 [2] ?_
  refine AllReadyH.cons rfl (fun K hK => ?_) ?_
  ·clear hHeld
   go_simp
   (with_reducible refine (CC.out _ (HF.out.keep (TW0.out.and_then HK.out))).mono ?_)
   rintro e Y1 ⟨⟨cv, rfl, hcv⟩, k3⟩
   have HSX := kept HK.out.size
   obtain ⟨ca, cc, rfl, -, -⟩ := own_form hcv
   have OC := kept (own_low hcv HSX.out)
   clear hcv
   show K _ _
   clear l0 l1 l2
   replace Bl := kept (Bl.out.keep k3 (by simp))
   replace HK := kept (HK.out.and_then k3)
   try replace OT := kept (own_keep OT.out k3 (by simp))
   clear k3 HSX
   have l0 := Bl.out.cell 0
   have l1 := Bl.out.cell 1
   have l2 := Bl.out.cell 2
   simp at l0 l1 l2
   refine hK.out _ _ ?gh1 (fun hHeld => ?_)
   case gh1 => exact ⟨l0, l1, l2⟩
   clear hK K
   try simp only [Act.put, sA, sB, sC]
   refine t2 [4] ?_
   refine AllReadyH.cons rfl (fun K hK => ?_) ?_
   ·clear hHeld
    go_simp
    (with_reducible refine (CRe.out _ (HTB.out.keep (TW0.out.and_then HK.out)) (HF.out.keep (TW0.out.and_then HK.out))).mono ?_)
    rintro e Y2 ⟨⟨tv, rfl, th, htv, hth⟩, k3⟩
    have HSX := kept HK.out.size
    obtain ⟨ta, tc, rfl, -, -⟩ := own_form htv
    have OT := kept (own_low htv HSX.out)
    have HTH := kept hth
    clear htv hth
    show K _ _
    clear l0 l1 l2
    replace Bl := kept (Bl.out.keep k3 (by simp))
    replace HK := kept (HK.out.and_then k3)
    try replace OC := kept (own_keep OC.out k3 (by simp))
    clear k3 HSX
    have l0 := Bl.out.cell 0
    have l1 := Bl.out.cell 1
    have l2 := Bl.out.cell 2
    simp at l0 l1 l2
    refine hK.out _ _ ?gh2 (fun hHeld => ?_)
    case gh2 => exact ⟨l0, l1, l2⟩
    clear hK K
    try simp only [Act.put, sA, sB, sC]
    refine tp 5 15 rfl hHeld ?_
    refine t2 [6] ?_
    refine AllReadyH.cons rfl (fun K hK => ?_) ?_
    ·clear hHeld
     go_simp
     have k3 : Keeps Y2 (Y2.alloc (.cells #[.slice a0 f.nv c0, .slice a1 f.np c1, .slice a2 f.nb c2, .slice ca nc cc, .slice ta f.nb tc, .slice none 0 0] 89)) [] := (Keeps.refl _ []).alloc _
     have BL := kept (Blk.new Y2 89 #[.slice a0 f.nv c0, .slice a1 f.np c1, .slice a2 f.nb c2, .slice ca nc cc, .slice ta f.nb tc, .slice none 0 0])
     have HGE := kept HK.out.size
     clear l0 l1 l2
     replace Bl := kept (Bl.out.keep k3 (by simp))
     replace HK := kept (HK.out.and_then k3)
     replace OC := kept (own_keep OC.out k3 (by simp))
     replace OT := kept (own_keep OT.out k3 (by simp))
     clear k3
     generalize Y2.alloc (.cells #[.slice a0 f.nv c0, .slice a1 f.np c1, .slice a2 f.nb c2, .slice ca nc cc, .slice ta f.nb tc, .slice none 0 0] 89) = Y3 at *
     generalize Y2.heap.size = L at *
     have l0 := Bl.out.cell 0
     have l1 := Bl.out.cell 1
     have l2 := Bl.out.cell 2
     simp at l0 l1 l2
     refine hK.out _ _ ?gh3 (fun hHeld => ?_)
     case gh3 => exact ⟨l0, l1, l2⟩
     clear hK K
     try simp only [Act.put, sA, sB, sC]
     refine tp 7 3 rfl hHeld ?_
     refine wpAnyH_done (by kernel_rfl) ?_ _
     clear hHeld
     go_wp2
     go_meet
     exact ⟨L, _, _, th, rfl, BL.out, OC.out, OT.out, HTH.out, HGE.out, HK.out⟩
    exact AllReadyH.nil
   exact AllReadyH.nil
  exact AllReadyH.nil
 case rest =>
  obtain ⟨L, lv, tv, th, rfl, hBL, hOC, hOT, hTH, hGE, hr⟩ := hcut
  have OC := kept hOC.out
  have OT := kept hOT.out
  have HTH := kept hTH.out
  have BL := kept hBL.out
  have HGE := kept hGE
  clear hBL hOC hOT hTH hGE
  clear l0 l1 l2
  replace Bl := kept (Bl_W0.out.keep hr (by simp))
  replace HK := kept hr
  clear hr
  have l0 := Bl.out.cell 0
  have l1 := Bl.out.cell 1
  have l2 := Bl.out.cell 2
  simp at l0 l1 l2
  go_upto_region 2 with (fail)
  go_cut [4, 5] from 17 to 20 (fun t4 t5 wx => ∃ gp vp P ord, t4 = .slice (some ⟨gp, 0, none⟩) f.nb f.nb ∧ Hid (PrRow wx W0.heap.size gp f.nb vp P) ∧ Hid (PredsOK f P) ∧ Hid (wx.ownsRow W0.heap.size 3 1 t5 ord.length (natV ord)) ∧ Hid (OrdOK f ord) ∧ Hid (Blk wx L 89 #[.slice a0 f.nv c0, .slice a1 f.np c1, .slice a2 f.nb c2, lv, tv, .slice none 0 0]) ∧ Hid (wx.ownsRow W0.heap.size 49 2 lv nc (cellsC cs)) ∧ Hid (wx.ownsRow W0.heap.size 4 1 tv f.nb (bitV th)) ∧ Keeps W0 wx [])
  case first =>
   refine wp_region_held_drew (S := (fun w' => w'.cell? ⟨w.heap.size, 0, none⟩ = some (.slice a0 f.nv c0) ∧ w'.cell? ⟨w.heap.size, 1, none⟩ = some (.slice a1 f.np c1) ∧ w'.cell? ⟨w.heap.size, 2, none⟩ = some (.slice a2 f.nb c2))) (by kernel_rfl) ?ghS (fun hHeld => ?_)
   case ghS => exact ⟨l0, l1, l2⟩
   clear l0 l1 l2
   replace Bl := kept (Bl.out.keep ((Keeps.refl _ []).drew) (by simp))
   replace HK := kept (HK.out.drew)
   replace BL := kept (BL.out.keep ((Keeps.refl _ []).drew) (by simp))
   replace OC := kept (own_keep OC.out ((Keeps.refl _ []).drew) (by simp))
   replace OT := kept (own_keep OT.out ((Keeps.refl _ []).drew) (by simp))
   generalize World.drew _ = X0 at *
   have l0 := Bl.out.cell 0
   have l1 := Bl.out.cell 1
   have l2 := Bl.out.cell 2
   simp at l0 l1 l2
   refine tp 0 17 rfl hHeld ?_
   refine tp 2 19 rfl hHeld ?_
   refine t2 [1] ?_
   refine AllReadyH.cons rfl (fun K hK => ?_) ?_
   ·clear hHeld
    go_simp
    (with_reducible refine (CPr.out _ (HTB.out.keep (TW0.out.and_then HK.out)) (HF.out.keep (TW0.out.and_then HK.out))).mono ?_)
    rintro e Y1 ⟨⟨gp, rfl, vp, P, hP, hPO⟩, k3⟩
    have HSX := kept HK.out.size
    have HP := kept (show PrRow _ W0.heap.size gp f.nb vp P from ⟨hP.lv, hP.lp, hP.g, fun b hb => own_low (hP.r b hb) HSX.out, hP.ap⟩)
    have HPO := kept hPO
    clear hP hPO
    show K _ _
    clear l0 l1 l2
    replace Bl := kept (Bl.out.keep k3 (by simp))
    replace HK := kept (HK.out.and_then k3)
    replace BL := kept (BL.out.keep k3 (by simp))
    replace OC := kept (own_keep OC.out k3 (by simp))
    replace OT := kept (own_keep OT.out k3 (by simp))
    try replace OO := kept (own_keep OO.out k3 (by simp))
    clear k3 HSX
    have l0 := Bl.out.cell 0
    have l1 := Bl.out.cell 1
    have l2 := Bl.out.cell 2
    simp at l0 l1 l2
    refine hK.out _ _ ?gh1 (fun hHeld => ?_)
    case gh1 => exact ⟨l0, l1, l2⟩
    clear hK K
    try simp only [Act.put, sA, sB, sC]
    refine t2 [3] ?_
    refine AllReadyH.cons rfl (fun K hK => ?_) ?_
    ·clear hHeld
     go_simp
     (with_reducible refine (COr.out _ (HTB.out.keep (TW0.out.and_then HK.out)) (HF.out.keep (TW0.out.and_then HK.out))).mono ?_)
     rintro e Y2 ⟨⟨ov, rfl, ord, hov, hord⟩, k3⟩
     have HSX := kept HK.out.size
     have OO := kept (own_low hov HSX.out)
     have HO := kept hord
     clear hov hord
     show K _ _
     clear l0 l1 l2
     replace Bl := kept (Bl.out.keep k3 (by simp))
     replace HK := kept (HK.out.and_then k3)
     replace BL := kept (BL.out.keep k3 (by simp))
     replace OC := kept (own_keep OC.out k3 (by simp))
     replace OT := kept (own_keep OT.out k3 (by simp))
     try replace HP := kept (HP.out.keep k3)
     clear k3 HSX
     have l0 := Bl.out.cell 0
     have l1 := Bl.out.cell 1
     have l2 := Bl.out.cell 2
     simp at l0 l1 l2
     refine hK.out _ _ ?gh2 (fun hHeld => ?_)
     case gh2 => exact ⟨l0, l1, l2⟩
     clear hK K
     try simp only [Act.put, sA, sB, sC]
     refine tp 4 4 rfl hHeld ?_
     refine tp 5 5 rfl hHeld ?_
     refine wpAnyH_done (by kernel_rfl) ?_ _
     clear hHeld
     go_wp2
     go_meet
     exact ⟨gp, vp, P, ord, rfl, HP.out, HPO.out, OO.out, HO.out, BL.out, OC.out, OT.out, HK.out⟩
    exact AllReadyH.nil
   exact AllReadyH.nil
  case rest =>
   obtain ⟨gp, vp, P, ord, rfl, hP, hPO, hOO, hHO, hBL, hOC, hOT, hr⟩ := hcut
   clear BL OC OT
   have HP := kept hP.out
   have HPO := kept hPO.out
   have OO := kept hOO.out
   have HO := kept hHO.out
   have BL := kept hBL.out
   have OC := kept hOC.out
   have OT := kept hOT.out
   clear hP hPO hOO hHO hBL hOC hOT
   clear l0 l1 l2
   replace Bl := kept (Bl_W0.out.keep hr (by simp))
   replace HK := kept hr
   clear hr
   have l0 := Bl.out.cell 0
   have l1 := Bl.out.cell 1
   have l2 := Bl.out.cell 2
   simp at l0 l1 l2
   obtain ⟨oa, oc, rfl, -, -⟩ := own_form OO.out
   obtain ⟨la, lc, rfl, -, -⟩ := own_form OC.out
   obtain ⟨ta, tc, rfl, -, -⟩ := own_form OT.out
   have HFI := kept (field_start (f := f) (cs := cs) (th := th) (by rw [HFV.out.1, HFV.out.2.1, HFV.out.2.2]; exact BL.out) (HF.out.keep (TW0.out.and_then HK.out)) (by rw [HN.out]; exact own_low OC.out (Nat.zero_le _)) (HLA.out _ (HF.out.keep (TW0.out.and_then HK.out))) (by rw [HTH.out.len]; exact own_low OT.out (Nat.zero_le _)))
   have HLG := kept (show W0.heap.size ≤ L from HGE.out)
   clear BL OC OT HGE
   have HMK := kept (fun w => make_boolsB nc hnc w)
   obtain ⟨i39, hi39, he39⟩ := Option.map_eq_some_iff.1 info39c
   simp only [Prod.mk.injEq] at he39
   obtain ⟨hz39, hs39, hb39⟩ := he39
   go_wp2
   go_loopw [24] (fun i' wx => ∃ (k : Nat) (iv : Value) (vs : List Value), k ≤ f.nb ∧ i' = .int .i64 k ∧ Hid (FieldAt wx L f cs th (List.replicate k (List.replicate nc true)) (.slice la nc lc) (.slice ta f.nb tc) iv vs) ∧ Hid (∀ z, iv.ownBlock = some z → W0.heap.size ≤ z) ∧ Hid (PrRow wx W0.heap.size gp f.nb vp P) ∧ Hid (wx.ownsRow W0.heap.size 3 1 (.slice oa ord.length oc) ord.length (natV ord)) ∧ Keeps W0 wx []) (fun i' _ => f.nb - (intOf i').toNat)
   case atStart => exact ⟨0, _, _, Nat.zero_le _, rfl, HFI.out, fun z hz => (by cases hz), HP.out, OO.out, HK.out⟩
   case round =>
    obtain ⟨k, iv, vs, hk, rfl, hFI, hIG, hP, hOO, hr⟩ := hrel
    have HIG := kept hIG.out
    clear hIG
    clear HFI HP OO HK
    have HFI := kept hFI.out
    have HP := kept hP.out
    have OO := kept hOO.out
    have HK := kept hr
    clear hFI hP hOO hr l0 l1 l2 Bl
    have Bl := kept (Bl_W0.out.keep HK.out (by simp))
    have l0 := Bl.out.cell 0
    have l1 := Bl.out.cell 1
    have l2 := Bl.out.cell 2
    simp at l0 l1 l2
    obtain ⟨ia, ic, rfl, -, -⟩ := own_form HFI.out.i
    by_cases hlk : k < f.nb
    ·have hlkz : (k : Int) < (f.nb : Int) := by omega
     go_upto_region 5 with (fail)
     refine wp_region_held_drew (S := (fun _ => True)) (by kernel_rfl) ?ghS (fun hHeld => ?_)
     case ghS => exact trivial
     clear l0 l1 l2 Bl
     replace HFI := kept (HFI.out.keep ((Keeps.refl _ []).drew))
     replace HP := kept (HP.out.keep ((Keeps.refl _ []).drew))
     replace OO := kept (own_keep OO.out ((Keeps.refl _ []).drew) (by simp))
     replace HK := kept (HK.out.drew)
     generalize World.drew _ = X0 at *
     refine tp 0 26 rfl hHeld ?_
     refine tp 1 27 rfl hHeld ?_
     refine tp 2 28 rfl hHeld ?_
     refine tp 3 29 rfl hHeld ?_
     refine tp 6 32 rfl hHeld ?_
     refine tp 7 33 rfl hHeld ?_
     refine tp 8 34 rfl hHeld ?_
     refine t2 [4, 5, 9] ?_
     refine AllReadyH.cons rfl (fun K hK => ?_) ?_
     ·clear hHeld
      have f5 : X0.cell? ⟨L, 5, none⟩ = some (.slice ia k ic) := (by have h9 := HFI.out.box.cell 5; simpa using h9)
      go_simp
      clear f5
      show K _ _
      refine hK.out _ _ ?gh1 (fun hHeld => ?_)
      case gh1 => exact trivial
      clear hK K
      try simp only [Act.put, sA, sB, sC]
      refine t2 [5, 9] ?_
      refine AllReadyH.cons rfl (fun K hK => ?_) ?_
      ·clear hHeld
       go_simp
       have k3 : Keeps X0 (X0.alloc (.cells #[.bool true] 4)) [] := (Keeps.refl _ []).alloc _
       have BT0 := kept (Blk.new X0 4 #[.bool true])
       replace HFI := kept (HFI.out.keep k3)
       replace HP := kept (HP.out.keep k3)
       replace OO := kept (own_keep OO.out k3 (by simp))
       replace HK := kept (HK.out.and_then k3)
       have BT := BT0
       clear k3 BT0
       generalize X0.alloc (.cells #[.bool true] 4) = Y2 at *
       generalize X0.heap.size = bt at *
       refine hK.out _ _ ?gh2 (fun hHeld => ?_)
       case gh2 => exact trivial
       clear hK K
       try simp only [Act.put, sA, sB, sC]
       refine t2 [9] ?_
       refine AllReadyH.cons rfl (fun K hK => ?_) ?_
       ·clear hHeld
        have f3 : Y2.cell? ⟨L, 3, none⟩ = some (.slice la nc lc) := (by have h9 := HFI.out.box.cell 3; simpa using h9)
        go_simp
        clear f3
        show K _ _
        refine hK.out _ _ ?gh3 (fun hHeld => ?_)
        case gh3 => exact trivial
        clear hK K
        try simp only [Act.put, sA, sB, sC]
        refine tp 10 36 rfl hHeld ?_
        refine t2 [11] ?_
        refine AllReadyH.cons rfl (fun K hK => ?_) ?_
        ·clear hHeld
         go_simp
         (with_reducible refine (repeat_any nc bt _ hnc BT.out).mono ?_)
         rintro e Y4 ⟨⟨sv, rfl, hsv⟩, k3⟩
         obtain ⟨sa, sc, rfl, -, -⟩ := own_form hsv
         have OS0 := kept (own_low hsv (Nat.zero_le _))
         clear hsv
         show K _ _
         replace HFI := kept (HFI.out.keep k3)
         replace HP := kept (HP.out.keep k3)
         replace OO := kept (own_keep OO.out k3 (by simp))
         replace HK := kept (HK.out.and_then k3)
         try replace BT := kept (BT.out.keep k3 (by simp))
         have OS := OS0
         clear k3 OS0
         refine hK.out _ _ ?gh4 (fun hHeld => ?_)
         case gh4 => exact trivial
         clear hK K
         try simp only [Act.put, sA, sB, sC]
         refine t2 [12] ?_
         refine AllReadyH.cons rfl (fun K hK => ?_) ?_
         ·clear hHeld
          go_simp
          have k3 : Keeps Y4 (Y4.alloc (.cells #[.slice sa nc sc] 39)) [] := (Keeps.refl _ []).alloc _
          have BN0 := kept (Blk.new Y4 39 #[.slice sa nc sc])
          replace HFI := kept (HFI.out.keep k3)
          replace HP := kept (HP.out.keep k3)
          replace OO := kept (own_keep OO.out k3 (by simp))
          replace HK := kept (HK.out.and_then k3)
          try replace BT := kept (BT.out.keep k3 (by simp))
          try replace OS := kept (own_keep OS.out k3 (by simp))
          have BN := BN0
          clear k3 BN0
          generalize Y4.alloc (.cells #[.slice sa nc sc] 39) = Y5 at *
          generalize Y4.heap.size = bn at *
          refine hK.out _ _ ?gh5 (fun hHeld => ?_)
          case gh5 => exact trivial
          clear hK K
          try simp only [Act.put, sA, sB, sC]
          refine t2 [13] ?_
          refine AllReadyH.cons rfl (fun K hK => ?_) ?_
          ·clear hHeld
           refine step_row rfl (.tmp 30) (.tmp 38) 87 rfl W0.heap.size 39 i39 (.slice none 0 0) 1 24 Tryz.underlying87 hi39 hz39 hs39 hb39 rfl (by decide) (.slice ia k ic) k vs rfl (by have h9 := HFI.out.i; rw [List.length_replicate] at h9 HIG; exact own_rebase h9 HIG.out) (.slice (some ⟨bn, 0, none⟩) 1 1) [[.slice sa nc sc]] rfl (row_single BN.out) (by simp) (by simp [Value.oneCell']) (by simp; unfold maxLen; omega) (by simp; omega) HK.out.size ?_
           intro v' Y6 hown hgrow
           obtain ⟨na, nd, rfl, -, -⟩ := own_form hown
           have HOW := kept hown
           have HGR := kept hgrow
           clear hown hgrow
           show K _ _
           obtain ⟨XP, hXP⟩ : ∃ XP : World, XP = Y5 := ⟨_, rfl⟩
           subst hXP
           refine hK.out _ _ ?gh6 (fun hHeld => ?_)
           case gh6 => exact trivial
           clear hK K
           try simp only [Act.put, sA, sB, sC]
           refine tp 14 40 rfl hHeld ?_
           refine tp 15 41 rfl hHeld ?_
           refine t2 [16] ?_
           refine AllReadyH.cons rfl (fun K hK => ?_) ?_
           ·clear hHeld
            have g5 : Y6.cell? ⟨L, 5, none⟩ = some (.slice ia k ic) := (by have h9 := (blk_grown0 HFI.out.box HFI.out.i (by decide) (by rw [List.length_replicate]; exact HGR.out)).cell 5; simpa using h9)
            have g6 : Y6.frozen? ⟨L, 5, none⟩ = false := (blk_grown0 HFI.out.box HFI.out.i (by decide) (by rw [List.length_replicate]; exact HGR.out)).frozen 5
            go_simp
            clear g5 g6
            have hK2 : Keeps W0 (Y6.setCell ⟨L, 5, none⟩ (.slice na (k + 1) nd)) [] := (HK.out.grown HGR.out (fun z hz => .inr (HIG.out z (by rw [List.length_replicate]; exact hz)))).setCell (.inr HLG.out) _
            have hF2 := HFI.out.snoc (by rw [HN.out]; exact OS.out) (by rw [List.length_replicate]; exact HGR.out) (by rw [List.length_replicate]; exact own_low HOW.out (Nat.zero_le _)) (HF.out.keep (TW0.out.and_then hK2)) (HLA.out _ (HF.out.keep (TW0.out.and_then hK2)))
            have hP2 := pr_snoc (v := .slice na (k + 1) nd) HFI.out (by rw [List.length_replicate]; exact HGR.out) HP.out
            have hO2 := own_snoc (v := .slice na (k + 1) nd) HFI.out (by rw [List.length_replicate]; exact HGR.out) OO.out (by decide) (by decide)
            have HIN := kept (show ∀ z, (Value.slice na (k + 1) nd).ownBlock = some z → W0.heap.size ≤ z from fun z hz => (own_lt HOW.out hz).2)
            clear HFI HP OO HK HGR HOW BN OS
            generalize (Y6.setCell ⟨L, 5, none⟩ (.slice na (k + 1) nd)) = Y7 at *
            have HFI := kept hF2
            have HP := kept hP2
            have OO := kept hO2
            have HK := kept hK2
            clear hF2 hP2 hO2 hK2
            show K _ _
            refine hK.out _ _ ?gh7 (fun hHeld => ?_)
            case gh7 => exact trivial
            clear hK K
            try simp only [Act.put, sA, sB, sC]
            refine wpAnyH_done (by kernel_rfl) ?_ _
            clear hHeld
            go_wp2
            go_roundw
            case rel => exact ⟨k + 1, _, _, by omega, by go_num, by rw [List.replicate_succ']; exact HFI.out, HIN.out, HP.out, OO.out, HK.out⟩
            case measure => simp [intOf]; omega
           exact AllReadyH.nil
          exact AllReadyH.nil
         exact AllReadyH.nil
        exact AllReadyH.nil
       exact AllReadyH.nil
      refine AllReadyH.cons rfl (fun K hK => ?_) ?_
      ·clear hHeld
       have f3 : X0.cell? ⟨L, 3, none⟩ = some (.slice la nc lc) := (by have h9 := HFI.out.box.cell 3; simpa using h9)
       go_simp
       clear f3
       show K _ _
       refine hK.out _ _ ?gh8 (fun hHeld => ?_)
       case gh8 => exact trivial
       clear hK K
       try simp only [Act.put, sA, sB, sC]
       refine tp 10 36 rfl hHeld ?_
       refine t2 [5] ?_
       refine AllReadyH.cons rfl (fun K hK => ?_) ?_
       ·clear hHeld
        go_simp
        have k3 : Keeps X0 (X0.alloc (.cells #[.bool true] 4)) [] := (Keeps.refl _ []).alloc _
        have BT0 := kept (Blk.new X0 4 #[.bool true])
        replace HFI := kept (HFI.out.keep k3)
        replace HP := kept (HP.out.keep k3)
        replace OO := kept (own_keep OO.out k3 (by simp))
        replace HK := kept (HK.out.and_then k3)
        have BT := BT0
        clear k3 BT0
        generalize X0.alloc (.cells #[.bool true] 4) = Y9 at *
        generalize X0.heap.size = bt at *
        refine hK.out _ _ ?gh9 (fun hHeld => ?_)
        case gh9 => exact trivial
        clear hK K
        try simp only [Act.put, sA, sB, sC]
        refine t2 [11] ?_
        refine AllReadyH.cons rfl (fun K hK => ?_) ?_
        ·clear hHeld
         go_simp
         (with_reducible refine (repeat_any nc bt _ hnc BT.out).mono ?_)
         rintro e Y10 ⟨⟨sv, rfl, hsv⟩, k3⟩
         obtain ⟨sa, sc, rfl, -, -⟩ := own_form hsv
         have OS0 := kept (own_low hsv (Nat.zero_le _))
         clear hsv
         show K _ _
         replace HFI := kept (HFI.out.keep k3)
         replace HP := kept (HP.out.keep k3)
         replace OO := kept (own_keep OO.out k3 (by simp))
         replace HK := kept (HK.out.and_then k3)
         try replace BT := kept (BT.out.keep k3 (by simp))
         have OS := OS0
         clear k3 OS0
         refine hK.out _ _ ?gh10 (fun hHeld => ?_)
         case gh10 => exact trivial
         clear hK K
         try simp only [Act.put, sA, sB, sC]
         refine t2 [12] ?_
         refine AllReadyH.cons rfl (fun K hK => ?_) ?_
         ·clear hHeld
          go_simp
          have k3 : Keeps Y10 (Y10.alloc (.cells #[.slice sa nc sc] 39)) [] := (Keeps.refl _ []).alloc _
          have BN0 := kept (Blk.new Y10 39 #[.slice sa nc sc])
          replace HFI := kept (HFI.out.keep k3)
          replace HP := kept (HP.out.keep k3)
          replace OO := kept (own_keep OO.out k3 (by simp))
          replace HK := kept (HK.out.and_then k3)
          try replace BT := kept (BT.out.keep k3 (by simp))
          try replace OS := kept (own_keep OS.out k3 (by simp))
          have BN := BN0
          clear k3 BN0
          generalize Y10.alloc (.cells #[.slice sa nc sc] 39) = Y11 at *
          generalize Y10.heap.size = bn at *
          refine hK.out _ _ ?gh11 (fun hHeld => ?_)
          case gh11 => exact trivial
          clear hK K
          try simp only [Act.put, sA, sB, sC]
          refine t2 [13] ?_
          refine AllReadyH.cons rfl (fun K hK => ?_) ?_
          ·clear hHeld
           refine step_row rfl (.tmp 30) (.tmp 38) 87 rfl W0.heap.size 39 i39 (.slice none 0 0) 1 24 Tryz.underlying87 hi39 hz39 hs39 hb39 rfl (by decide) (.slice ia k ic) k vs rfl (by have h9 := HFI.out.i; rw [List.length_replicate] at h9 HIG; exact own_rebase h9 HIG.out) (.slice (some ⟨bn, 0, none⟩) 1 1) [[.slice sa nc sc]] rfl (row_single BN.out) (by simp) (by simp [Value.oneCell']) (by simp; unfold maxLen; omega) (by simp; omega) HK.out.size ?_
           intro v' Y12 hown hgrow
           obtain ⟨na, nd, rfl, -, -⟩ := own_form hown
           have HOW := kept hown
           have HGR := kept hgrow
           clear hown hgrow
           show K _ _
           obtain ⟨XP, hXP⟩ : ∃ XP : World, XP = Y11 := ⟨_, rfl⟩
           subst hXP
           refine hK.out _ _ ?gh12 (fun hHeld => ?_)
           case gh12 => exact trivial
           clear hK K
           try simp only [Act.put, sA, sB, sC]
           refine tp 14 40 rfl hHeld ?_
           refine tp 15 41 rfl hHeld ?_
           refine t2 [16] ?_
           refine AllReadyH.cons rfl (fun K hK => ?_) ?_
           ·clear hHeld
            have g5 : Y12.cell? ⟨L, 5, none⟩ = some (.slice ia k ic) := (by have h9 := (blk_grown0 HFI.out.box HFI.out.i (by decide) (by rw [List.length_replicate]; exact HGR.out)).cell 5; simpa using h9)
            have g6 : Y12.frozen? ⟨L, 5, none⟩ = false := (blk_grown0 HFI.out.box HFI.out.i (by decide) (by rw [List.length_replicate]; exact HGR.out)).frozen 5
            go_simp
            clear g5 g6
            have hK2 : Keeps W0 (Y12.setCell ⟨L, 5, none⟩ (.slice na (k + 1) nd)) [] := (HK.out.grown HGR.out (fun z hz => .inr (HIG.out z (by rw [List.length_replicate]; exact hz)))).setCell (.inr HLG.out) _
            have hF2 := HFI.out.snoc (by rw [HN.out]; exact OS.out) (by rw [List.length_replicate]; exact HGR.out) (by rw [List.length_replicate]; exact own_low HOW.out (Nat.zero_le _)) (HF.out.keep (TW0.out.and_then hK2)) (HLA.out _ (HF.out.keep (TW0.out.and_then hK2)))
            have hP2 := pr_snoc (v := .slice na (k + 1) nd) HFI.out (by rw [List.length_replicate]; exact HGR.out) HP.out
            have hO2 := own_snoc (v := .slice na (k + 1) nd) HFI.out (by rw [List.length_replicate]; exact HGR.out) OO.out (by decide) (by decide)
            have HIN := kept (show ∀ z, (Value.slice na (k + 1) nd).ownBlock = some z → W0.heap.size ≤ z from fun z hz => (own_lt HOW.out hz).2)
            clear HFI HP OO HK HGR HOW BN OS
            generalize (Y12.setCell ⟨L, 5, none⟩ (.slice na (k + 1) nd)) = Y13 at *
            have HFI := kept hF2
            have HP := kept hP2
            have OO := kept hO2
            have HK := kept hK2
            clear hF2 hP2 hO2 hK2
            show K _ _
            refine hK.out _ _ ?gh13 (fun hHeld => ?_)
            case gh13 => exact trivial
            clear hK K
            try simp only [Act.put, sA, sB, sC]
            refine wpAnyH_done (by kernel_rfl) ?_ _
            clear hHeld
            go_wp2
            go_roundw
            case rel => exact ⟨k + 1, _, _, by omega, by go_num, by rw [List.replicate_succ']; exact HFI.out, HIN.out, HP.out, OO.out, HK.out⟩
            case measure => simp [intOf]; omega
           exact AllReadyH.nil
          exact AllReadyH.nil
         exact AllReadyH.nil
        exact AllReadyH.nil
       exact AllReadyH.nil
      exact AllReadyH.nil
     refine AllReadyH.cons rfl (fun K hK => ?_) ?_
     ·clear hHeld
      go_simp
      have k3 : Keeps X0 (X0.alloc (.cells #[.bool true] 4)) [] := (Keeps.refl _ []).alloc _
      have BT0 := kept (Blk.new X0 4 #[.bool true])
      replace HFI := kept (HFI.out.keep k3)
      replace HP := kept (HP.out.keep k3)
      replace OO := kept (own_keep OO.out k3 (by simp))
      replace HK := kept (HK.out.and_then k3)
      have BT := BT0
      clear k3 BT0
      generalize X0.alloc (.cells #[.bool true] 4) = Y14 at *
      generalize X0.heap.size = bt at *
      refine hK.out _ _ ?gh14 (fun hHeld => ?_)
      case gh14 => exact trivial
      clear hK K
      try simp only [Act.put, sA, sB, sC]
      refine t2 [4, 9] ?_
      refine AllReadyH.cons rfl (fun K hK => ?_) ?_
      ·clear hHeld
       have f5 : Y14.cell? ⟨L, 5, none⟩ = some (.slice ia k ic) := (by have h9 := HFI.out.box.cell 5; simpa using h9)
       go_simp
       clear f5
       show K _ _
       refine hK.out _ _ ?gh15 (fun hHeld => ?_)
       case gh15 => exact trivial
       clear hK K
       try simp only [Act.put, sA, sB, sC]
       refine t2 [9] ?_
       refine AllReadyH.cons rfl (fun K hK => ?_) ?_
       ·clear hHeld
        have f3 : Y14.cell? ⟨L, 3, none⟩ = some (.slice la nc lc) := (by have h9 := HFI.out.box.cell 3; simpa using h9)
        go_simp
        clear f3
        show K _ _
        refine hK.out _ _ ?gh16 (fun hHeld => ?_)
        case gh16 => exact trivial
        clear hK K
        try simp only [Act.put, sA, sB, sC]
        refine tp 10 36 rfl hHeld ?_
        refine t2 [11] ?_
        refine AllReadyH.cons rfl (fun K hK => ?_) ?_
        ·clear hHeld
         go_simp
         (with_reducible refine (repeat_any nc bt _ hnc BT.out).mono ?_)
         rintro e Y17 ⟨⟨sv, rfl, hsv⟩, k3⟩
         obtain ⟨sa, sc, rfl, -, -⟩ := own_form hsv
         have OS0 := kept (own_low hsv (Nat.zero_le _))
         clear hsv
         show K _ _
         replace HFI := kept (HFI.out.keep k3)
         replace HP := kept (HP.out.keep k3)
         replace OO := kept (own_keep OO.out k3 (by simp))
         replace HK := kept (HK.out.and_then k3)
         try replace BT := kept (BT.out.keep k3 (by simp))
         have OS := OS0
         clear k3 OS0
         refine hK.out _ _ ?gh17 (fun hHeld => ?_)
         case gh17 => exact trivial
         clear hK K
         try simp only [Act.put, sA, sB, sC]
         refine t2 [12] ?_
         refine AllReadyH.cons rfl (fun K hK => ?_) ?_
         ·clear hHeld
          go_simp
          have k3 : Keeps Y17 (Y17.alloc (.cells #[.slice sa nc sc] 39)) [] := (Keeps.refl _ []).alloc _
          have BN0 := kept (Blk.new Y17 39 #[.slice sa nc sc])
          replace HFI := kept (HFI.out.keep k3)
          replace HP := kept (HP.out.keep k3)
          replace OO := kept (own_keep OO.out k3 (by simp))
          replace HK := kept (HK.out.and_then k3)
          try replace BT := kept (BT.out.keep k3 (by simp))
          try replace OS := kept (own_keep OS.out k3 (by simp))
          have BN := BN0
          clear k3 BN0
          generalize Y17.alloc (.cells #[.slice sa nc sc] 39) = Y18 at *
          generalize Y17.heap.size = bn at *
          refine hK.out _ _ ?gh18 (fun hHeld => ?_)
          case gh18 => exact trivial
          clear hK K
          try simp only [Act.put, sA, sB, sC]
          refine t2 [13] ?_
          refine AllReadyH.cons rfl (fun K hK => ?_) ?_
          ·clear hHeld
           refine step_row rfl (.tmp 30) (.tmp 38) 87 rfl W0.heap.size 39 i39 (.slice none 0 0) 1 24 Tryz.underlying87 hi39 hz39 hs39 hb39 rfl (by decide) (.slice ia k ic) k vs rfl (by have h9 := HFI.out.i; rw [List.length_replicate] at h9 HIG; exact own_rebase h9 HIG.out) (.slice (some ⟨bn, 0, none⟩) 1 1) [[.slice sa nc sc]] rfl (row_single BN.out) (by simp) (by simp [Value.oneCell']) (by simp; unfold maxLen; omega) (by simp; omega) HK.out.size ?_
           intro v' Y19 hown hgrow
           obtain ⟨na, nd, rfl, -, -⟩ := own_form hown
           have HOW := kept hown
           have HGR := kept hgrow
           clear hown hgrow
           show K _ _
           obtain ⟨XP, hXP⟩ : ∃ XP : World, XP = Y18 := ⟨_, rfl⟩
           subst hXP
           refine hK.out _ _ ?gh19 (fun hHeld => ?_)
           case gh19 => exact trivial
           clear hK K
           try simp only [Act.put, sA, sB, sC]
           refine tp 14 40 rfl hHeld ?_
           refine tp 15 41 rfl hHeld ?_
           refine t2 [16] ?_
           refine AllReadyH.cons rfl (fun K hK => ?_) ?_
           ·clear hHeld
            have g5 : Y19.cell? ⟨L, 5, none⟩ = some (.slice ia k ic) := (by have h9 := (blk_grown0 HFI.out.box HFI.out.i (by decide) (by rw [List.length_replicate]; exact HGR.out)).cell 5; simpa using h9)
            have g6 : Y19.frozen? ⟨L, 5, none⟩ = false := (blk_grown0 HFI.out.box HFI.out.i (by decide) (by rw [List.length_replicate]; exact HGR.out)).frozen 5
            go_simp
            clear g5 g6
            have hK2 : Keeps W0 (Y19.setCell ⟨L, 5, none⟩ (.slice na (k + 1) nd)) [] := (HK.out.grown HGR.out (fun z hz => .inr (HIG.out z (by rw [List.length_replicate]; exact hz)))).setCell (.inr HLG.out) _
            have hF2 := HFI.out.snoc (by rw [HN.out]; exact OS.out) (by rw [List.length_replicate]; exact HGR.out) (by rw [List.length_replicate]; exact own_low HOW.out (Nat.zero_le _)) (HF.out.keep (TW0.out.and_then hK2)) (HLA.out _ (HF.out.keep (TW0.out.and_then hK2)))
            have hP2 := pr_snoc (v := .slice na (k + 1) nd) HFI.out (by rw [List.length_replicate]; exact HGR.out) HP.out
            have hO2 := own_snoc (v := .slice na (k + 1) nd) HFI.out (by rw [List.length_replicate]; exact HGR.out) OO.out (by decide) (by decide)
            have HIN := kept (show ∀ z, (Value.slice na (k + 1) nd).ownBlock = some z → W0.heap.size ≤ z from fun z hz => (own_lt HOW.out hz).2)
            clear HFI HP OO HK HGR HOW BN OS
            generalize (Y19.setCell ⟨L, 5, none⟩ (.slice na (k + 1) nd)) = Y20 at *
            have HFI := kept hF2
            have HP := kept hP2
            have OO := kept hO2
            have HK := kept hK2
            clear hF2 hP2 hO2 hK2
            show K _ _
            refine hK.out _ _ ?gh20 (fun hHeld => ?_)
            case gh20 => exact trivial
            clear hK K
            try simp only [Act.put, sA, sB, sC]
            refine wpAnyH_done (by kernel_rfl) ?_ _
            clear hHeld
            go_wp2
            go_roundw
            case rel => exact ⟨k + 1, _, _, by omega, by go_num, by rw [List.replicate_succ']; exact HFI.out, HIN.out, HP.out, OO.out, HK.out⟩
            case measure => simp [intOf]; omega
           exact AllReadyH.nil
          exact AllReadyH.nil
         exact AllReadyH.nil
        exact AllReadyH.nil
       exact AllReadyH.nil
      refine AllReadyH.cons rfl (fun K hK => ?_) ?_
      ·clear hHeld
       have f3 : Y14.cell? ⟨L, 3, none⟩ = some (.slice la nc lc) := (by have h9 := HFI.out.box.cell 3; simpa using h9)
       go_simp
       clear f3
       show K _ _
       refine hK.out _ _ ?gh21 (fun hHeld => ?_)
       case gh21 => exact trivial
       clear hK K
       try simp only [Act.put, sA, sB, sC]
       refine tp 10 36 rfl hHeld ?_
       refine t2 [4, 11] ?_
       refine AllReadyH.cons rfl (fun K hK => ?_) ?_
       ·clear hHeld
        have f5 : Y14.cell? ⟨L, 5, none⟩ = some (.slice ia k ic) := (by have h9 := HFI.out.box.cell 5; simpa using h9)
        go_simp
        clear f5
        show K _ _
        refine hK.out _ _ ?gh22 (fun hHeld => ?_)
        case gh22 => exact trivial
        clear hK K
        try simp only [Act.put, sA, sB, sC]
        refine t2 [11] ?_
        refine AllReadyH.cons rfl (fun K hK => ?_) ?_
        ·clear hHeld
         go_simp
         (with_reducible refine (repeat_any nc bt _ hnc BT.out).mono ?_)
         rintro e Y23 ⟨⟨sv, rfl, hsv⟩, k3⟩
         obtain ⟨sa, sc, rfl, -, -⟩ := own_form hsv
         have OS0 := kept (own_low hsv (Nat.zero_le _))
         clear hsv
         show K _ _
         replace HFI := kept (HFI.out.keep k3)
         replace HP := kept (HP.out.keep k3)
         replace OO := kept (own_keep OO.out k3 (by simp))
         replace HK := kept (HK.out.and_then k3)
         try replace BT := kept (BT.out.keep k3 (by simp))
         have OS := OS0
         clear k3 OS0
         refine hK.out _ _ ?gh23 (fun hHeld => ?_)
         case gh23 => exact trivial
         clear hK K
         try simp only [Act.put, sA, sB, sC]
         refine t2 [12] ?_
         refine AllReadyH.cons rfl (fun K hK => ?_) ?_
         ·clear hHeld
          go_simp
          have k3 : Keeps Y23 (Y23.alloc (.cells #[.slice sa nc sc] 39)) [] := (Keeps.refl _ []).alloc _
          have BN0 := kept (Blk.new Y23 39 #[.slice sa nc sc])
          replace HFI := kept (HFI.out.keep k3)
          replace HP := kept (HP.out.keep k3)
          replace OO := kept (own_keep OO.out k3 (by simp))
          replace HK := kept (HK.out.and_then k3)
          try replace BT := kept (BT.out.keep k3 (by simp))
          try replace OS := kept (own_keep OS.out k3 (by simp))
          have BN := BN0
          clear k3 BN0
          generalize Y23.alloc (.cells #[.slice sa nc sc] 39) = Y24 at *
          generalize Y23.heap.size = bn at *
          refine hK.out _ _ ?gh24 (fun hHeld => ?_)
          case gh24 => exact trivial
          clear hK K
          try simp only [Act.put, sA, sB, sC]
          refine t2 [13] ?_
          refine AllReadyH.cons rfl (fun K hK => ?_) ?_
          ·clear hHeld
           refine step_row rfl (.tmp 30) (.tmp 38) 87 rfl W0.heap.size 39 i39 (.slice none 0 0) 1 24 Tryz.underlying87 hi39 hz39 hs39 hb39 rfl (by decide) (.slice ia k ic) k vs rfl (by have h9 := HFI.out.i; rw [List.length_replicate] at h9 HIG; exact own_rebase h9 HIG.out) (.slice (some ⟨bn, 0, none⟩) 1 1) [[.slice sa nc sc]] rfl (row_single BN.out) (by simp) (by simp [Value.oneCell']) (by simp; unfold maxLen; omega) (by simp; omega) HK.out.size ?_
           intro v' Y25 hown hgrow
           obtain ⟨na, nd, rfl, -, -⟩ := own_form hown
           have HOW := kept hown
           have HGR := kept hgrow
           clear hown hgrow
           show K _ _
           obtain ⟨XP, hXP⟩ : ∃ XP : World, XP = Y24 := ⟨_, rfl⟩
           subst hXP
           refine hK.out _ _ ?gh25 (fun hHeld => ?_)
           case gh25 => exact trivial
           clear hK K
           try simp only [Act.put, sA, sB, sC]
           refine tp 14 40 rfl hHeld ?_
           refine tp 15 41 rfl hHeld ?_
           refine t2 [16] ?_
           refine AllReadyH.cons rfl (fun K hK => ?_) ?_
           ·clear hHeld
            have g5 : Y25.cell? ⟨L, 5, none⟩ = some (.slice ia k ic) := (by have h9 := (blk_grown0 HFI.out.box HFI.out.i (by decide) (by rw [List.length_replicate]; exact HGR.out)).cell 5; simpa using h9)
            have g6 : Y25.frozen? ⟨L, 5, none⟩ = false := (blk_grown0 HFI.out.box HFI.out.i (by decide) (by rw [List.length_replicate]; exact HGR.out)).frozen 5
            go_simp
            clear g5 g6
            have hK2 : Keeps W0 (Y25.setCell ⟨L, 5, none⟩ (.slice na (k + 1) nd)) [] := (HK.out.grown HGR.out (fun z hz => .inr (HIG.out z (by rw [List.length_replicate]; exact hz)))).setCell (.inr HLG.out) _
            have hF2 := HFI.out.snoc (by rw [HN.out]; exact OS.out) (by rw [List.length_replicate]; exact HGR.out) (by rw [List.length_replicate]; exact own_low HOW.out (Nat.zero_le _)) (HF.out.keep (TW0.out.and_then hK2)) (HLA.out _ (HF.out.keep (TW0.out.and_then hK2)))
            have hP2 := pr_snoc (v := .slice na (k + 1) nd) HFI.out (by rw [List.length_replicate]; exact HGR.out) HP.out
            have hO2 := own_snoc (v := .slice na (k + 1) nd) HFI.out (by rw [List.length_replicate]; exact HGR.out) OO.out (by decide) (by decide)
            have HIN := kept (show ∀ z, (Value.slice na (k + 1) nd).ownBlock = some z → W0.heap.size ≤ z from fun z hz => (own_lt HOW.out hz).2)
            clear HFI HP OO HK HGR HOW BN OS
            generalize (Y25.setCell ⟨L, 5, none⟩ (.slice na (k + 1) nd)) = Y26 at *
            have HFI := kept hF2
            have HP := kept hP2
            have OO := kept hO2
            have HK := kept hK2
            clear hF2 hP2 hO2 hK2
            show K _ _
            refine hK.out _ _ ?gh26 (fun hHeld => ?_)
            case gh26 => exact trivial
            clear hK K
            try simp only [Act.put, sA, sB, sC]
            refine wpAnyH_done (by kernel_rfl) ?_ _
            clear hHeld
            go_wp2
            go_roundw
            case rel => exact ⟨k + 1, _, _, by omega, by go_num, by rw [List.replicate_succ']; exact HFI.out, HIN.out, HP.out, OO.out, HK.out⟩
            case measure => simp [intOf]; omega
           exact AllReadyH.nil
          exact AllReadyH.nil
         exact AllReadyH.nil
        exact AllReadyH.nil
       refine AllReadyH.cons rfl (fun K hK => ?_) ?_
       ·clear hHeld
        go_simp
        (with_reducible refine (repeat_any nc bt _ hnc BT.out).mono ?_)
        rintro e Y27 ⟨⟨sv, rfl, hsv⟩, k3⟩
        obtain ⟨sa, sc, rfl, -, -⟩ := own_form hsv
        have OS0 := kept (own_low hsv (Nat.zero_le _))
        clear hsv
        show K _ _
        replace HFI := kept (HFI.out.keep k3)
        replace HP := kept (HP.out.keep k3)
        replace OO := kept (own_keep OO.out k3 (by simp))
        replace HK := kept (HK.out.and_then k3)
        try replace BT := kept (BT.out.keep k3 (by simp))
        have OS := OS0
        clear k3 OS0
        refine hK.out _ _ ?gh27 (fun hHeld => ?_)
        case gh27 => exact trivial
        clear hK K
        try simp only [Act.put, sA, sB, sC]
        refine t2 [4, 12] ?_
        refine AllReadyH.cons rfl (fun K hK => ?_) ?_
        ·clear hHeld
         have f5 : Y27.cell? ⟨L, 5, none⟩ = some (.slice ia k ic) := (by have h9 := HFI.out.box.cell 5; simpa using h9)
         go_simp
         clear f5
         show K _ _
         refine hK.out _ _ ?gh28 (fun hHeld => ?_)
         case gh28 => exact trivial
         clear hK K
         try simp only [Act.put, sA, sB, sC]
         refine t2 [12] ?_
         refine AllReadyH.cons rfl (fun K hK => ?_) ?_
         ·clear hHeld
          go_simp
          have k3 : Keeps Y27 (Y27.alloc (.cells #[.slice sa nc sc] 39)) [] := (Keeps.refl _ []).alloc _
          have BN0 := kept (Blk.new Y27 39 #[.slice sa nc sc])
          replace HFI := kept (HFI.out.keep k3)
          replace HP := kept (HP.out.keep k3)
          replace OO := kept (own_keep OO.out k3 (by simp))
          replace HK := kept (HK.out.and_then k3)
          try replace BT := kept (BT.out.keep k3 (by simp))
          try replace OS := kept (own_keep OS.out k3 (by simp))
          have BN := BN0
          clear k3 BN0
          generalize Y27.alloc (.cells #[.slice sa nc sc] 39) = Y29 at *
          generalize Y27.heap.size = bn at *
          refine hK.out _ _ ?gh29 (fun hHeld => ?_)
          case gh29 => exact trivial
          clear hK K
          try simp only [Act.put, sA, sB, sC]
          refine t2 [13] ?_
          refine AllReadyH.cons rfl (fun K hK => ?_) ?_
          ·clear hHeld
           refine step_row rfl (.tmp 30) (.tmp 38) 87 rfl W0.heap.size 39 i39 (.slice none 0 0) 1 24 Tryz.underlying87 hi39 hz39 hs39 hb39 rfl (by decide) (.slice ia k ic) k vs rfl (by have h9 := HFI.out.i; rw [List.length_replicate] at h9 HIG; exact own_rebase h9 HIG.out) (.slice (some ⟨bn, 0, none⟩) 1 1) [[.slice sa nc sc]] rfl (row_single BN.out) (by simp) (by simp [Value.oneCell']) (by simp; unfold maxLen; omega) (by simp; omega) HK.out.size ?_
           intro v' Y30 hown hgrow
           obtain ⟨na, nd, rfl, -, -⟩ := own_form hown
           have HOW := kept hown
           have HGR := kept hgrow
           clear hown hgrow
           show K _ _
           obtain ⟨XP, hXP⟩ : ∃ XP : World, XP = Y29 := ⟨_, rfl⟩
           subst hXP
           refine hK.out _ _ ?gh30 (fun hHeld => ?_)
           case gh30 => exact trivial
           clear hK K
           try simp only [Act.put, sA, sB, sC]
           refine tp 14 40 rfl hHeld ?_
           refine tp 15 41 rfl hHeld ?_
           refine t2 [16] ?_
           refine AllReadyH.cons rfl (fun K hK => ?_) ?_
           ·clear hHeld
            have g5 : Y30.cell? ⟨L, 5, none⟩ = some (.slice ia k ic) := (by have h9 := (blk_grown0 HFI.out.box HFI.out.i (by decide) (by rw [List.length_replicate]; exact HGR.out)).cell 5; simpa using h9)
            have g6 : Y30.frozen? ⟨L, 5, none⟩ = false := (blk_grown0 HFI.out.box HFI.out.i (by decide) (by rw [List.length_replicate]; exact HGR.out)).frozen 5
            go_simp
            clear g5 g6
            have hK2 : Keeps W0 (Y30.setCell ⟨L, 5, none⟩ (.slice na (k + 1) nd)) [] := (HK.out.grown HGR.out (fun z hz => .inr (HIG.out z (by rw [List.length_replicate]; exact hz)))).setCell (.inr HLG.out) _
            have hF2 := HFI.out.snoc (by rw [HN.out]; exact OS.out) (by rw [List.length_replicate]; exact HGR.out) (by rw [List.length_replicate]; exact own_low HOW.out (Nat.zero_le _)) (HF.out.keep (TW0.out.and_then hK2)) (HLA.out _ (HF.out.keep (TW0.out.and_then hK2)))
            have hP2 := pr_snoc (v := .slice na (k + 1) nd) HFI.out (by rw [List.length_replicate]; exact HGR.out) HP.out
            have hO2 := own_snoc (v := .slice na (k + 1) nd) HFI.out (by rw [List.length_replicate]; exact HGR.out) OO.out (by decide) (by decide)
            have HIN := kept (show ∀ z, (Value.slice na (k + 1) nd).ownBlock = some z → W0.heap.size ≤ z from fun z hz => (own_lt HOW.out hz).2)
            clear HFI HP OO HK HGR HOW BN OS
            generalize (Y30.setCell ⟨L, 5, none⟩ (.slice na (k + 1) nd)) = Y31 at *
            have HFI := kept hF2
            have HP := kept hP2
            have OO := kept hO2
            have HK := kept hK2
            clear hF2 hP2 hO2 hK2
            show K _ _
            refine hK.out _ _ ?gh31 (fun hHeld => ?_)
            case gh31 => exact trivial
            clear hK K
            try simp only [Act.put, sA, sB, sC]
            refine wpAnyH_done (by kernel_rfl) ?_ _
            clear hHeld
            go_wp2
            go_roundw
            case rel => exact ⟨k + 1, _, _, by omega, by go_num, by rw [List.replicate_succ']; exact HFI.out, HIN.out, HP.out, OO.out, HK.out⟩
            case measure => simp [intOf]; omega
           exact AllReadyH.nil
          exact AllReadyH.nil
         exact AllReadyH.nil
        refine AllReadyH.cons rfl (fun K hK => ?_) ?_
        ·clear hHeld
         go_simp
         have k3 : Keeps Y27 (Y27.alloc (.cells #[.slice sa nc sc] 39)) [] := (Keeps.refl _ []).alloc _
         have BN0 := kept (Blk.new Y27 39 #[.slice sa nc sc])
         replace HFI := kept (HFI.out.keep k3)
         replace HP := kept (HP.out.keep k3)
         replace OO := kept (own_keep OO.out k3 (by simp))
         replace HK := kept (HK.out.and_then k3)
         try replace BT := kept (BT.out.keep k3 (by simp))
         try replace OS := kept (own_keep OS.out k3 (by simp))
         have BN := BN0
         clear k3 BN0
         generalize Y27.alloc (.cells #[.slice sa nc sc] 39) = Y32 at *
         generalize Y27.heap.size = bn at *
         refine hK.out _ _ ?gh32 (fun hHeld => ?_)
         case gh32 => exact trivial
         clear hK K
         try simp only [Act.put, sA, sB, sC]
         refine t2 [4] ?_
         refine AllReadyH.cons rfl (fun K hK => ?_) ?_
         ·clear hHeld
          have f5 : Y32.cell? ⟨L, 5, none⟩ = some (.slice ia k ic) := (by have h9 := HFI.out.box.cell 5; simpa using h9)
          go_simp
          clear f5
          show K _ _
          refine hK.out _ _ ?gh33 (fun hHeld => ?_)
          case gh33 => exact trivial
          clear hK K
          try simp only [Act.put, sA, sB, sC]
          refine t2 [13] ?_
          refine AllReadyH.cons rfl (fun K hK => ?_) ?_
          ·clear hHeld
           refine step_row rfl (.tmp 30) (.tmp 38) 87 rfl W0.heap.size 39 i39 (.slice none 0 0) 1 24 Tryz.underlying87 hi39 hz39 hs39 hb39 rfl (by decide) (.slice ia k ic) k vs rfl (by have h9 := HFI.out.i; rw [List.length_replicate] at h9 HIG; exact own_rebase h9 HIG.out) (.slice (some ⟨bn, 0, none⟩) 1 1) [[.slice sa nc sc]] rfl (row_single BN.out) (by simp) (by simp [Value.oneCell']) (by simp; unfold maxLen; omega) (by simp; omega) HK.out.size ?_
           intro v' Y34 hown hgrow
           obtain ⟨na, nd, rfl, -, -⟩ := own_form hown
           have HOW := kept hown
           have HGR := kept hgrow
           clear hown hgrow
           show K _ _
           obtain ⟨XP, hXP⟩ : ∃ XP : World, XP = Y32 := ⟨_, rfl⟩
           subst hXP
           refine hK.out _ _ ?gh34 (fun hHeld => ?_)
           case gh34 => exact trivial
           clear hK K
           try simp only [Act.put, sA, sB, sC]
           refine tp 14 40 rfl hHeld ?_
           refine tp 15 41 rfl hHeld ?_
           refine t2 [16] ?_
           refine AllReadyH.cons rfl (fun K hK => ?_) ?_
           ·clear hHeld
            have g5 : Y34.cell? ⟨L, 5, none⟩ = some (.slice ia k ic) := (by have h9 := (blk_grown0 HFI.out.box HFI.out.i (by decide) (by rw [List.length_replicate]; exact HGR.out)).cell 5; simpa using h9)
            have g6 : Y34.frozen? ⟨L, 5, none⟩ = false := (blk_grown0 HFI.out.box HFI.out.i (by decide) (by rw [List.length_replicate]; exact HGR.out)).frozen 5
            go_simp
            clear g5 g6
            have hK2 : Keeps W0 (Y34.setCell ⟨L, 5, none⟩ (.slice na (k + 1) nd)) [] := (HK.out.grown HGR.out (fun z hz => .inr (HIG.out z (by rw [List.length_replicate]; exact hz)))).setCell (.inr HLG.out) _
            have hF2 := HFI.out.snoc (by rw [HN.out]; exact OS.out) (by rw [List.length_replicate]; exact HGR.out) (by rw [List.length_replicate]; exact own_low HOW.out (Nat.zero_le _)) (HF.out.keep (TW0.out.and_then hK2)) (HLA.out _ (HF.out.keep (TW0.out.and_then hK2)))
            have hP2 := pr_snoc (v := .slice na (k + 1) nd) HFI.out (by rw [List.length_replicate]; exact HGR.out) HP.out
            have hO2 := own_snoc (v := .slice na (k + 1) nd) HFI.out (by rw [List.length_replicate]; exact HGR.out) OO.out (by decide) (by decide)
            have HIN := kept (show ∀ z, (Value.slice na (k + 1) nd).ownBlock = some z → W0.heap.size ≤ z from fun z hz => (own_lt HOW.out hz).2)
            clear HFI HP OO HK HGR HOW BN OS
            generalize (Y34.setCell ⟨L, 5, none⟩ (.slice na (k + 1) nd)) = Y35 at *
            have HFI := kept hF2
            have HP := kept hP2
            have OO := kept hO2
            have HK := kept hK2
            clear hF2 hP2 hO2 hK2
            show K _ _
            refine hK.out _ _ ?gh35 (fun hHeld => ?_)
            case gh35 => exact trivial
            clear hK K
            try simp only [Act.put, sA, sB, sC]
            refine wpAnyH_done (by kernel_rfl) ?_ _
            clear hHeld
            go_wp2
            go_roundw
            case rel => exact ⟨k + 1, _, _, by omega, by go_num, by rw [List.replicate_succ']; exact HFI.out, HIN.out, HP.out, OO.out, HK.out⟩
            case measure => simp [intOf]; omega
           exact AllReadyH.nil
          exact AllReadyH.nil
         exact AllReadyH.nil
        exact AllReadyH.nil
       exact AllReadyH.nil
      exact AllReadyH.nil
     refine AllReadyH.cons rfl (fun K hK => ?_) ?_
     ·clear hHeld
      have f3 : X0.cell? ⟨L, 3, none⟩ = some (.slice la nc lc) := (by have h9 := HFI.out.box.cell 3; simpa using h9)
      go_simp
      clear f3
      show K _ _
      refine hK.out _ _ ?gh36 (fun hHeld => ?_)
      case gh36 => exact trivial
      clear hK K
      try simp only [Act.put, sA, sB, sC]
      refine tp 10 36 rfl hHeld ?_
      refine t2 [4, 5] ?_
      refine AllReadyH.cons rfl (fun K hK => ?_) ?_
      ·clear hHeld
       have f5 : X0.cell? ⟨L, 5, none⟩ = some (.slice ia k ic) := (by have h9 := HFI.out.box.cell 5; simpa using h9)
       go_simp
       clear f5
       show K _ _
       refine hK.out _ _ ?gh37 (fun hHeld => ?_)
       case gh37 => exact trivial
       clear hK K
       try simp only [Act.put, sA, sB, sC]
       refine t2 [5] ?_
       refine AllReadyH.cons rfl (fun K hK => ?_) ?_
       ·clear hHeld
        go_simp
        have k3 : Keeps X0 (X0.alloc (.cells #[.bool true] 4)) [] := (Keeps.refl _ []).alloc _
        have BT0 := kept (Blk.new X0 4 #[.bool true])
        replace HFI := kept (HFI.out.keep k3)
        replace HP := kept (HP.out.keep k3)
        replace OO := kept (own_keep OO.out k3 (by simp))
        replace HK := kept (HK.out.and_then k3)
        have BT := BT0
        clear k3 BT0
        generalize X0.alloc (.cells #[.bool true] 4) = Y38 at *
        generalize X0.heap.size = bt at *
        refine hK.out _ _ ?gh38 (fun hHeld => ?_)
        case gh38 => exact trivial
        clear hK K
        try simp only [Act.put, sA, sB, sC]
        refine t2 [11] ?_
        refine AllReadyH.cons rfl (fun K hK => ?_) ?_
        ·clear hHeld
         go_simp
         (with_reducible refine (repeat_any nc bt _ hnc BT.out).mono ?_)
         rintro e Y39 ⟨⟨sv, rfl, hsv⟩, k3⟩
         obtain ⟨sa, sc, rfl, -, -⟩ := own_form hsv
         have OS0 := kept (own_low hsv (Nat.zero_le _))
         clear hsv
         show K _ _
         replace HFI := kept (HFI.out.keep k3)
         replace HP := kept (HP.out.keep k3)
         replace OO := kept (own_keep OO.out k3 (by simp))
         replace HK := kept (HK.out.and_then k3)
         try replace BT := kept (BT.out.keep k3 (by simp))
         have OS := OS0
         clear k3 OS0
         refine hK.out _ _ ?gh39 (fun hHeld => ?_)
         case gh39 => exact trivial
         clear hK K
         try simp only [Act.put, sA, sB, sC]
         refine t2 [12] ?_
         refine AllReadyH.cons rfl (fun K hK => ?_) ?_
         ·clear hHeld
          go_simp
          have k3 : Keeps Y39 (Y39.alloc (.cells #[.slice sa nc sc] 39)) [] := (Keeps.refl _ []).alloc _
          have BN0 := kept (Blk.new Y39 39 #[.slice sa nc sc])
          replace HFI := kept (HFI.out.keep k3)
          replace HP := kept (HP.out.keep k3)
          replace OO := kept (own_keep OO.out k3 (by simp))
          replace HK := kept (HK.out.and_then k3)
          try replace BT := kept (BT.out.keep k3 (by simp))
          try replace OS := kept (own_keep OS.out k3 (by simp))
          have BN := BN0
          clear k3 BN0
          generalize Y39.alloc (.cells #[.slice sa nc sc] 39) = Y40 at *
          generalize Y39.heap.size = bn at *
          refine hK.out _ _ ?gh40 (fun hHeld => ?_)
          case gh40 => exact trivial
          clear hK K
          try simp only [Act.put, sA, sB, sC]
          refine t2 [13] ?_
          refine AllReadyH.cons rfl (fun K hK => ?_) ?_
          ·clear hHeld
           refine step_row rfl (.tmp 30) (.tmp 38) 87 rfl W0.heap.size 39 i39 (.slice none 0 0) 1 24 Tryz.underlying87 hi39 hz39 hs39 hb39 rfl (by decide) (.slice ia k ic) k vs rfl (by have h9 := HFI.out.i; rw [List.length_replicate] at h9 HIG; exact own_rebase h9 HIG.out) (.slice (some ⟨bn, 0, none⟩) 1 1) [[.slice sa nc sc]] rfl (row_single BN.out) (by simp) (by simp [Value.oneCell']) (by simp; unfold maxLen; omega) (by simp; omega) HK.out.size ?_
           intro v' Y41 hown hgrow
           obtain ⟨na, nd, rfl, -, -⟩ := own_form hown
           have HOW := kept hown
           have HGR := kept hgrow
           clear hown hgrow
           show K _ _
           obtain ⟨XP, hXP⟩ : ∃ XP : World, XP = Y40 := ⟨_, rfl⟩
           subst hXP
           refine hK.out _ _ ?gh41 (fun hHeld => ?_)
           case gh41 => exact trivial
           clear hK K
           try simp only [Act.put, sA, sB, sC]
           refine tp 14 40 rfl hHeld ?_
           refine tp 15 41 rfl hHeld ?_
           refine t2 [16] ?_
           refine AllReadyH.cons rfl (fun K hK => ?_) ?_
           ·clear hHeld
            have g5 : Y41.cell? ⟨L, 5, none⟩ = some (.slice ia k ic) := (by have h9 := (blk_grown0 HFI.out.box HFI.out.i (by decide) (by rw [List.length_replicate]; exact HGR.out)).cell 5; simpa using h9)
            have g6 : Y41.frozen? ⟨L, 5, none⟩ = false := (blk_grown0 HFI.out.box HFI.out.i (by decide) (by rw [List.length_replicate]; exact HGR.out)).frozen 5
            go_simp
            clear g5 g6
            have hK2 : Keeps W0 (Y41.setCell ⟨L, 5, none⟩ (.slice na (k + 1) nd)) [] := (HK.out.grown HGR.out (fun z hz => .inr (HIG.out z (by rw [List.length_replicate]; exact hz)))).setCell (.inr HLG.out) _
            have hF2 := HFI.out.snoc (by rw [HN.out]; exact OS.out) (by rw [List.length_replicate]; exact HGR.out) (by rw [List.length_replicate]; exact own_low HOW.out (Nat.zero_le _)) (HF.out.keep (TW0.out.and_then hK2)) (HLA.out _ (HF.out.keep (TW0.out.and_then hK2)))
            have hP2 := pr_snoc (v := .slice na (k + 1) nd) HFI.out (by rw [List.length_replicate]; exact HGR.out) HP.out
            have hO2 := own_snoc (v := .slice na (k + 1) nd) HFI.out (by rw [List.length_replicate]; exact HGR.out) OO.out (by decide) (by decide)
            have HIN := kept (show ∀ z, (Value.slice na (k + 1) nd).ownBlock = some z → W0.heap.size ≤ z from fun z hz => (own_lt HOW.out hz).2)
            clear HFI HP OO HK HGR HOW BN OS
            generalize (Y41.setCell ⟨L, 5, none⟩ (.slice na (k + 1) nd)) = Y42 at *
            have HFI := kept hF2
            have HP := kept hP2
            have OO := kept hO2
            have HK := kept hK2
            clear hF2 hP2 hO2 hK2
            show K _ _
            refine hK.out _ _ ?gh42 (fun hHeld => ?_)
            case gh42 => exact trivial
            clear hK K
            try simp only [Act.put, sA, sB, sC]
            refine wpAnyH_done (by kernel_rfl) ?_ _
            clear hHeld
            go_wp2
            go_roundw
            case rel => exact ⟨k + 1, _, _, by omega, by go_num, by rw [List.replicate_succ']; exact HFI.out, HIN.out, HP.out, OO.out, HK.out⟩
            case measure => simp [intOf]; omega
           exact AllReadyH.nil
          exact AllReadyH.nil
         exact AllReadyH.nil
        exact AllReadyH.nil
       exact AllReadyH.nil
      refine AllReadyH.cons rfl (fun K hK => ?_) ?_
      ·clear hHeld
       go_simp
       have k3 : Keeps X0 (X0.alloc (.cells #[.bool true] 4)) [] := (Keeps.refl _ []).alloc _
       have BT0 := kept (Blk.new X0 4 #[.bool true])
       replace HFI := kept (HFI.out.keep k3)
       replace HP := kept (HP.out.keep k3)
       replace OO := kept (own_keep OO.out k3 (by simp))
       replace HK := kept (HK.out.and_then k3)
       have BT := BT0
       clear k3 BT0
       generalize X0.alloc (.cells #[.bool true] 4) = Y43 at *
       generalize X0.heap.size = bt at *
       refine hK.out _ _ ?gh43 (fun hHeld => ?_)
       case gh43 => exact trivial
       clear hK K
       try simp only [Act.put, sA, sB, sC]
       refine t2 [4, 11] ?_
       refine AllReadyH.cons rfl (fun K hK => ?_) ?_
       ·clear hHeld
        have f5 : Y43.cell? ⟨L, 5, none⟩ = some (.slice ia k ic) := (by have h9 := HFI.out.box.cell 5; simpa using h9)
        go_simp
        clear f5
        show K _ _
        refine hK.out _ _ ?gh44 (fun hHeld => ?_)
        case gh44 => exact trivial
        clear hK K
        try simp only [Act.put, sA, sB, sC]
        refine t2 [11] ?_
        refine AllReadyH.cons rfl (fun K hK => ?_) ?_
        ·clear hHeld
         go_simp
         (with_reducible refine (repeat_any nc bt _ hnc BT.out).mono ?_)
         rintro e Y45 ⟨⟨sv, rfl, hsv⟩, k3⟩
         obtain ⟨sa, sc, rfl, -, -⟩ := own_form hsv
         have OS0 := kept (own_low hsv (Nat.zero_le _))
         clear hsv
         show K _ _
         replace HFI := kept (HFI.out.keep k3)
         replace HP := kept (HP.out.keep k3)
         replace OO := kept (own_keep OO.out k3 (by simp))
         replace HK := kept (HK.out.and_then k3)
         try replace BT := kept (BT.out.keep k3 (by simp))
         have OS := OS0
         clear k3 OS0
         refine hK.out _ _ ?gh45 (fun hHeld => ?_)
         case gh45 => exact trivial
         clear hK K
         try simp only [Act.put, sA, sB, sC]
         refine t2 [12] ?_
         refine AllReadyH.cons rfl (fun K hK => ?_) ?_
         ·clear hHeld
          go_simp
          have k3 : Keeps Y45 (Y45.alloc (.cells #[.slice sa nc sc] 39)) [] := (Keeps.refl _ []).alloc _
          have BN0 := kept (Blk.new Y45 39 #[.slice sa nc sc])
          replace HFI := kept (HFI.out.keep k3)
          replace HP := kept (HP.out.keep k3)
          replace OO := kept (own_keep OO.out k3 (by simp))
          replace HK := kept (HK.out.and_then k3)
          try replace BT := kept (BT.out.keep k3 (by simp))
          try replace OS := kept (own_keep OS.out k3 (by simp))
          have BN := BN0
          clear k3 BN0
          generalize Y45.alloc (.cells #[.slice sa nc sc] 39) = Y46 at *
          generalize Y45.heap.size = bn at *
          refine hK.out _ _ ?gh46 (fun hHeld => ?_)
          case gh46 => exact trivial
          clear hK K
          try simp only [Act.put, sA, sB, sC]
          refine t2 [13] ?_
          refine AllReadyH.cons rfl (fun K hK => ?_) ?_
          ·clear hHeld
           refine step_row rfl (.tmp 30) (.tmp 38) 87 rfl W0.heap.size 39 i39 (.slice none 0 0) 1 24 Tryz.underlying87 hi39 hz39 hs39 hb39 rfl (by decide) (.slice ia k ic) k vs rfl (by have h9 := HFI.out.i; rw [List.length_replicate] at h9 HIG; exact own_rebase h9 HIG.out) (.slice (some ⟨bn, 0, none⟩) 1 1) [[.slice sa nc sc]] rfl (row_single BN.out) (by simp) (by simp [Value.oneCell']) (by simp; unfold maxLen; omega) (by simp; omega) HK.out.size ?_
           intro v' Y47 hown hgrow
           obtain ⟨na, nd, rfl, -, -⟩ := own_form hown
           have HOW := kept hown
           have HGR := kept hgrow
           clear hown hgrow
           show K _ _
           obtain ⟨XP, hXP⟩ : ∃ XP : World, XP = Y46 := ⟨_, rfl⟩
           subst hXP
           refine hK.out _ _ ?gh47 (fun hHeld => ?_)
           case gh47 => exact trivial
           clear hK K
           try simp only [Act.put, sA, sB, sC]
           refine tp 14 40 rfl hHeld ?_
           refine tp 15 41 rfl hHeld ?_
           refine t2 [16] ?_
           refine AllReadyH.cons rfl (fun K hK => ?_) ?_
           ·clear hHeld
            have g5 : Y47.cell? ⟨L, 5, none⟩ = some (.slice ia k ic) := (by have h9 := (blk_grown0 HFI.out.box HFI.out.i (by decide) (by rw [List.length_replicate]; exact HGR.out)).cell 5; simpa using h9)
            have g6 : Y47.frozen? ⟨L, 5, none⟩ = false := (blk_grown0 HFI.out.box HFI.out.i (by decide) (by rw [List.length_replicate]; exact HGR.out)).frozen 5
            go_simp
            clear g5 g6
            have hK2 : Keeps W0 (Y47.setCell ⟨L, 5, none⟩ (.slice na (k + 1) nd)) [] := (HK.out.grown HGR.out (fun z hz => .inr (HIG.out z (by rw [List.length_replicate]; exact hz)))).setCell (.inr HLG.out) _
            have hF2 := HFI.out.snoc (by rw [HN.out]; exact OS.out) (by rw [List.length_replicate]; exact HGR.out) (by rw [List.length_replicate]; exact own_low HOW.out (Nat.zero_le _)) (HF.out.keep (TW0.out.and_then hK2)) (HLA.out _ (HF.out.keep (TW0.out.and_then hK2)))
            have hP2 := pr_snoc (v := .slice na (k + 1) nd) HFI.out (by rw [List.length_replicate]; exact HGR.out) HP.out
            have hO2 := own_snoc (v := .slice na (k + 1) nd) HFI.out (by rw [List.length_replicate]; exact HGR.out) OO.out (by decide) (by decide)
            have HIN := kept (show ∀ z, (Value.slice na (k + 1) nd).ownBlock = some z → W0.heap.size ≤ z from fun z hz => (own_lt HOW.out hz).2)
            clear HFI HP OO HK HGR HOW BN OS
            generalize (Y47.setCell ⟨L, 5, none⟩ (.slice na (k + 1) nd)) = Y48 at *
            have HFI := kept hF2
            have HP := kept hP2
            have OO := kept hO2
            have HK := kept hK2
            clear hF2 hP2 hO2 hK2
            show K _ _
            refine hK.out _ _ ?gh48 (fun hHeld => ?_)
            case gh48 => exact trivial
            clear hK K
            try simp only [Act.put, sA, sB, sC]
            refine wpAnyH_done (by kernel_rfl) ?_ _
            clear hHeld
            go_wp2
            go_roundw
            case rel => exact ⟨k + 1, _, _, by omega, by go_num, by rw [List.replicate_succ']; exact HFI.out, HIN.out, HP.out, OO.out, HK.out⟩
            case measure => simp [intOf]; omega
           exact AllReadyH.nil
          exact AllReadyH.nil
         exact AllReadyH.nil
        exact AllReadyH.nil
       refine AllReadyH.cons rfl (fun K hK => ?_) ?_
       ·clear hHeld
        go_simp
        (with_reducible refine (repeat_any nc bt _ hnc BT.out).mono ?_)
        rintro e Y49 ⟨⟨sv, rfl, hsv⟩, k3⟩
        obtain ⟨sa, sc, rfl, -, -⟩ := own_form hsv
        have OS0 := kept (own_low hsv (Nat.zero_le _))
        clear hsv
        show K _ _
        replace HFI := kept (HFI.out.keep k3)
        replace HP := kept (HP.out.keep k3)
        replace OO := kept (own_keep OO.out k3 (by simp))
        replace HK := kept (HK.out.and_then k3)
        try replace BT := kept (BT.out.keep k3 (by simp))
        have OS := OS0
        clear k3 OS0
        refine hK.out _ _ ?gh49 (fun hHeld => ?_)
        case gh49 => exact trivial
        clear hK K
        try simp only [Act.put, sA, sB, sC]
        refine t2 [4, 12] ?_
        refine AllReadyH.cons rfl (fun K hK => ?_) ?_
        ·clear hHeld
         have f5 : Y49.cell? ⟨L, 5, none⟩ = some (.slice ia k ic) := (by have h9 := HFI.out.box.cell 5; simpa using h9)
         go_simp
         clear f5
         show K _ _
         refine hK.out _ _ ?gh50 (fun hHeld => ?_)
         case gh50 => exact trivial
         clear hK K
         try simp only [Act.put, sA, sB, sC]
         refine t2 [12] ?_
         refine AllReadyH.cons rfl (fun K hK => ?_) ?_
         ·clear hHeld
          go_simp
          have k3 : Keeps Y49 (Y49.alloc (.cells #[.slice sa nc sc] 39)) [] := (Keeps.refl _ []).alloc _
          have BN0 := kept (Blk.new Y49 39 #[.slice sa nc sc])
          replace HFI := kept (HFI.out.keep k3)
          replace HP := kept (HP.out.keep k3)
          replace OO := kept (own_keep OO.out k3 (by simp))
          replace HK := kept (HK.out.and_then k3)
          try replace BT := kept (BT.out.keep k3 (by simp))
          try replace OS := kept (own_keep OS.out k3 (by simp))
          have BN := BN0
          clear k3 BN0
          generalize Y49.alloc (.cells #[.slice sa nc sc] 39) = Y51 at *
          generalize Y49.heap.size = bn at *
          refine hK.out _ _ ?gh51 (fun hHeld => ?_)
          case gh51 => exact trivial
          clear hK K
          try simp only [Act.put, sA, sB, sC]
          refine t2 [13] ?_
          refine AllReadyH.cons rfl (fun K hK => ?_) ?_
          ·clear hHeld
           refine step_row rfl (.tmp 30) (.tmp 38) 87 rfl W0.heap.size 39 i39 (.slice none 0 0) 1 24 Tryz.underlying87 hi39 hz39 hs39 hb39 rfl (by decide) (.slice ia k ic) k vs rfl (by have h9 := HFI.out.i; rw [List.length_replicate] at h9 HIG; exact own_rebase h9 HIG.out) (.slice (some ⟨bn, 0, none⟩) 1 1) [[.slice sa nc sc]] rfl (row_single BN.out) (by simp) (by simp [Value.oneCell']) (by simp; unfold maxLen; omega) (by simp; omega) HK.out.size ?_
           intro v' Y52 hown hgrow
           obtain ⟨na, nd, rfl, -, -⟩ := own_form hown
           have HOW := kept hown
           have HGR := kept hgrow
           clear hown hgrow
           show K _ _
           obtain ⟨XP, hXP⟩ : ∃ XP : World, XP = Y51 := ⟨_, rfl⟩
           subst hXP
           refine hK.out _ _ ?gh52 (fun hHeld => ?_)
           case gh52 => exact trivial
           clear hK K
           try simp only [Act.put, sA, sB, sC]
           refine tp 14 40 rfl hHeld ?_
           refine tp 15 41 rfl hHeld ?_
           refine t2 [16] ?_
           refine AllReadyH.cons rfl (fun K hK => ?_) ?_
           ·clear hHeld
            have g5 : Y52.cell? ⟨L, 5, none⟩ = some (.slice ia k ic) := (by have h9 := (blk_grown0 HFI.out.box HFI.out.i (by decide) (by rw [List.length_replicate]; exact HGR.out)).cell 5; simpa using h9)
            have g6 : Y52.frozen? ⟨L, 5, none⟩ = false := (blk_grown0 HFI.out.box HFI.out.i (by decide) (by rw [List.length_replicate]; exact HGR.out)).frozen 5
            go_simp
            clear g5 g6
            have hK2 : Keeps W0 (Y52.setCell ⟨L, 5, none⟩ (.slice na (k + 1) nd)) [] := (HK.out.grown HGR.out (fun z hz => .inr (HIG.out z (by rw [List.length_replicate]; exact hz)))).setCell (.inr HLG.out) _
            have hF2 := HFI.out.snoc (by rw [HN.out]; exact OS.out) (by rw [List.length_replicate]; exact HGR.out) (by rw [List.length_replicate]; exact own_low HOW.out (Nat.zero_le _)) (HF.out.keep (TW0.out.and_then hK2)) (HLA.out _ (HF.out.keep (TW0.out.and_then hK2)))
            have hP2 := pr_snoc (v := .slice na (k + 1) nd) HFI.out (by rw [List.length_replicate]; exact HGR.out) HP.out
            have hO2 := own_snoc (v := .slice na (k + 1) nd) HFI.out (by rw [List.length_replicate]; exact HGR.out) OO.out (by decide) (by decide)
            have HIN := kept (show ∀ z, (Value.slice na (k + 1) nd).ownBlock = some z → W0.heap.size ≤ z from fun z hz => (own_lt HOW.out hz).2)
            clear HFI HP OO HK HGR HOW BN OS
            generalize (Y52.setCell ⟨L, 5, none⟩ (.slice na (k + 1) nd)) = Y53 at *
            have HFI := kept hF2
            have HP := kept hP2
            have OO := kept hO2
            have HK := kept hK2
            clear hF2 hP2 hO2 hK2
            show K _ _
            refine hK.out _ _ ?gh53 (fun hHeld => ?_)
            case gh53 => exact trivial
            clear hK K
            try simp only [Act.put, sA, sB, sC]
            refine wpAnyH_done (by kernel_rfl) ?_ _
            clear hHeld
            go_wp2
            go_roundw
            case rel => exact ⟨k + 1, _, _, by omega, by go_num, by rw [List.replicate_succ']; exact HFI.out, HIN.out, HP.out, OO.out, HK.out⟩
            case measure => simp [intOf]; omega
           exact AllReadyH.nil
          exact AllReadyH.nil
         exact AllReadyH.nil
        refine AllReadyH.cons rfl (fun K hK => ?_) ?_
        ·clear hHeld
         go_simp
         have k3 : Keeps Y49 (Y49.alloc (.cells #[.slice sa nc sc] 39)) [] := (Keeps.refl _ []).alloc _
         have BN0 := kept (Blk.new Y49 39 #[.slice sa nc sc])
         replace HFI := kept (HFI.out.keep k3)
         replace HP := kept (HP.out.keep k3)
         replace OO := kept (own_keep OO.out k3 (by simp))
         replace HK := kept (HK.out.and_then k3)
         try replace BT := kept (BT.out.keep k3 (by simp))
         try replace OS := kept (own_keep OS.out k3 (by simp))
         have BN := BN0
         clear k3 BN0
         generalize Y49.alloc (.cells #[.slice sa nc sc] 39) = Y54 at *
         generalize Y49.heap.size = bn at *
         refine hK.out _ _ ?gh54 (fun hHeld => ?_)
         case gh54 => exact trivial
         clear hK K
         try simp only [Act.put, sA, sB, sC]
         refine t2 [4] ?_
         refine AllReadyH.cons rfl (fun K hK => ?_) ?_
         ·clear hHeld
          have f5 : Y54.cell? ⟨L, 5, none⟩ = some (.slice ia k ic) := (by have h9 := HFI.out.box.cell 5; simpa using h9)
          go_simp
          clear f5
          show K _ _
          refine hK.out _ _ ?gh55 (fun hHeld => ?_)
          case gh55 => exact trivial
          clear hK K
          try simp only [Act.put, sA, sB, sC]
          refine t2 [13] ?_
          refine AllReadyH.cons rfl (fun K hK => ?_) ?_
          ·clear hHeld
           refine step_row rfl (.tmp 30) (.tmp 38) 87 rfl W0.heap.size 39 i39 (.slice none 0 0) 1 24 Tryz.underlying87 hi39 hz39 hs39 hb39 rfl (by decide) (.slice ia k ic) k vs rfl (by have h9 := HFI.out.i; rw [List.length_replicate] at h9 HIG; exact own_rebase h9 HIG.out) (.slice (some ⟨bn, 0, none⟩) 1 1) [[.slice sa nc sc]] rfl (row_single BN.out) (by simp) (by simp [Value.oneCell']) (by simp; unfold maxLen; omega) (by simp; omega) HK.out.size ?_
           intro v' Y56 hown hgrow
           obtain ⟨na, nd, rfl, -, -⟩ := own_form hown
           have HOW := kept hown
           have HGR := kept hgrow
           clear hown hgrow
           show K _ _
           obtain ⟨XP, hXP⟩ : ∃ XP : World, XP = Y54 := ⟨_, rfl⟩
           subst hXP
           refine hK.out _ _ ?gh56 (fun hHeld => ?_)
           case gh56 => exact trivial
           clear hK K
           try simp only [Act.put, sA, sB, sC]
           refine tp 14 40 rfl hHeld ?_
           refine tp 15 41 rfl hHeld ?_
           refine t2 [16] ?_
           refine AllReadyH.cons rfl (fun K hK => ?_) ?_
           ·clear hHeld
            have g5 : Y56.cell? ⟨L, 5, none⟩ = some (.slice ia k ic) := (by have h9 := (blk_grown0 HFI.out.box HFI.out.i (by decide) (by rw [List.length_replicate]; exact HGR.out)).cell 5; simpa using h9)
            have g6 : Y56.frozen? ⟨L, 5, none⟩ = false := (blk_grown0 HFI.out.box HFI.out.i (by decide) (by rw [List.length_replicate]; exact HGR.out)).frozen 5
            go_simp
            clear g5 g6
            have hK2 : Keeps W0 (Y56.setCell ⟨L, 5, none⟩ (.slice na (k + 1) nd)) [] := (HK.out.grown HGR.out (fun z hz => .inr (HIG.out z (by rw [List.length_replicate]; exact hz)))).setCell (.inr HLG.out) _
            have hF2 := HFI.out.snoc (by rw [HN.out]; exact OS.out) (by rw [List.length_replicate]; exact HGR.out) (by rw [List.length_replicate]; exact own_low HOW.out (Nat.zero_le _)) (HF.out.keep (TW0.out.and_then hK2)) (HLA.out _ (HF.out.keep (TW0.out.and_then hK2)))
            have hP2 := pr_snoc (v := .slice na (k + 1) nd) HFI.out (by rw [List.length_replicate]; exact HGR.out) HP.out
            have hO2 := own_snoc (v := .slice na (k + 1) nd) HFI.out (by rw [List.length_replicate]; exact HGR.out) OO.out (by decide) (by decide)
            have HIN := kept (show ∀ z, (Value.slice na (k + 1) nd).ownBlock = some z → W0.heap.size ≤ z from fun z hz => (own_lt HOW.out hz).2)
            clear HFI HP OO HK HGR HOW BN OS
            generalize (Y56.setCell ⟨L, 5, none⟩ (.slice na (k + 1) nd)) = Y57 at *
            have HFI := kept hF2
            have HP := kept hP2
            have OO := kept hO2
            have HK := kept hK2
            clear hF2 hP2 hO2 hK2
            show K _ _
            refine hK.out _ _ ?gh57 (fun hHeld => ?_)
            case gh57 => exact trivial
            clear hK K
            try simp only [Act.put, sA, sB, sC]
            refine wpAnyH_done (by kernel_rfl) ?_ _
            clear hHeld
            go_wp2
            go_roundw
            case rel => exact ⟨k + 1, _, _, by omega, by go_num, by rw [List.replicate_succ']; exact HFI.out, HIN.out, HP.out, OO.out, HK.out⟩
            case measure => simp [intOf]; omega
           exact AllReadyH.nil
          exact AllReadyH.nil
         exact AllReadyH.nil
        exact AllReadyH.nil
       exact AllReadyH.nil
      exact AllReadyH.nil
     exact AllReadyH.nil
    ·have hlkz : ¬ (k : Int) < (f.nb : Int) := by omega
     obtain rfl : k = f.nb := by omega
     clear l0 l1 l2 Bl
     obtain ⟨I1, hI1⟩ : ∃ I1, List.replicate f.nb (List.replicate nc true) = I1 := ⟨_, rfl⟩
     have HI1 := kept hI1
     have hIL : I1.length = f.nb := by rw [← hI1]; simp
     rw [hI1, hIL] at HFI
     rw [hI1, hIL] at HIG
     have HIL := kept hIL
     clear hI1 hIL
     obtain ⟨G, capX, eG, -, hGo, -⟩ := own_at HFI.out.i (by rw [HIL.out]; exact hp)
     rw [HIL.out] at eG
     simp only [Value.slice.injEq] at eG
     obtain ⟨rfl, -, rfl⟩ := eG
     have HGO := kept hGo
     have HGG := kept (HIG.out G rfl)
     clear hGo HIG
     go_upto_region 7 with (fail)
     have f3 : wr.cell? ⟨L, 3, none⟩ = some (.slice la nc lc) := (by have h9 := HFI.out.box.cell 3; simpa using h9)
     have f5 : wr.cell? ⟨L, 5, none⟩ = some (.slice (some ⟨G, 0, none⟩) f.nb ic) := (by have h9 := HFI.out.box.cell 5; simpa using h9)
     refine wp_region_held_drew (S := (fun w' => w'.cell? ⟨L, 3, none⟩ = some (.slice la nc lc) ∧ w'.cell? ⟨L, 5, none⟩ = some (.slice (some ⟨G, 0, none⟩) f.nb ic))) (by kernel_rfl) ?ghS (fun hHeld => ?_)
     case ghS => exact ⟨f3, f5⟩
     clear f3 f5
     replace HFI := kept (HFI.out.keep ((Keeps.refl _ []).drew))
     replace HP := kept (HP.out.keep ((Keeps.refl _ []).drew))
     replace OO := kept (own_keep OO.out ((Keeps.refl _ []).drew) (by simp))
     replace HK := kept (HK.out.drew)
     generalize World.drew _ = X0 at *
     have f3 : X0.cell? ⟨L, 3, none⟩ = some (.slice la nc lc) := (by have h9 := HFI.out.box.cell 3; simpa using h9)
     have f5 : X0.cell? ⟨L, 5, none⟩ = some (.slice (some ⟨G, 0, none⟩) f.nb ic) := (by have h9 := HFI.out.box.cell 5; simpa using h9)
     refine tp 0 43 rfl hHeld ?_
     refine tp 1 44 rfl hHeld ?_
     refine tp 2 45 rfl hHeld ?_
     refine tp 3 46 rfl hHeld ?_
     refine tp 4 47 rfl hHeld ?_
     refine tp 5 48 rfl hHeld ?_
     refine tp 6 49 rfl hHeld ?_
     refine tp 7 50 rfl hHeld ?_
     refine tp 8 51 rfl hHeld ?_
     refine t2 [9] ?_
     refine AllReadyH.cons rfl (fun K hK => ?_) ?_
     ·clear hHeld
      have hmk := HMK.out
      go_simp
      clear hmk f3 f5
      have k3 : Keeps X0 (X0.alloc (.cells (bitsR (List.replicate nc false)) 4)) [] := (Keeps.refl _ []).alloc _
      have BS := kept (Blk.new X0 4 (bitsR (List.replicate nc false)))
      replace HFI := kept (HFI.out.keep k3)
      replace HP := kept (HP.out.keep k3)
      replace OO := kept (own_keep OO.out k3 (by simp))
      replace HK := kept (HK.out.and_then k3)
      clear k3
      generalize X0.alloc (.cells (bitsR (List.replicate nc false)) 4) = Y1 at *
      generalize X0.heap.size = gz at *
      have f3 : Y1.cell? ⟨L, 3, none⟩ = some (.slice la nc lc) := (by have h9 := HFI.out.box.cell 3; simpa using h9)
      have f5 : Y1.cell? ⟨L, 5, none⟩ = some (.slice (some ⟨G, 0, none⟩) f.nb ic) := (by have h9 := HFI.out.box.cell 5; simpa using h9)
      refine hK.out _ _ ?gh1 (fun hHeld => ?_)
      case gh1 => exact ⟨f3, f5⟩
      clear hK K
      try simp only [Act.put, sA, sB, sC]
      refine tp 10 53 rfl hHeld ?_
      refine t2 [11] ?_
      refine AllReadyH.cons rfl (fun K hK => ?_) ?_
      ·clear hHeld
       have g1 := (own_cellAt HFI.out.i HGO.out (i := 0) (by rw [HIL.out]; omega)).2
       obtain ⟨u0, g0⟩ : ∃ u, Y1.cell? ⟨G, 0, none⟩ = some u := ⟨_, (own_cellAt HFI.out.i HGO.out (i := 0) (by rw [HIL.out]; omega)).1.trans (getElem?_pos_bang (by have h9 := HFI.out.i.1; rw [HIL.out] at h9; omega))⟩
       go_simp
       clear g0 g1 f3 f5 u0
       have hK2 : Keeps W0 (Y1.setCell ⟨G, 0, none⟩ (.slice (some ⟨gz, 0, none⟩) nc nc)) [] := HK.out.setCell (.inr HGG.out) _
       have hF2 := HFI.out.put HGO.out (b := 0) (by rw [HIL.out]; exact hp) (by rw [HN.out]; exact bitsR_own (n := nc) BS.out (Nat.zero_le _) (by simp) (by unfold maxLen; omega)) (HF.out.keep (TW0.out.and_then hK2)) (HLA.out _ (HF.out.keep (TW0.out.and_then hK2)))
       have hP2 := HP.out.put39 (b := 0) (s := .slice (some ⟨gz, 0, none⟩) nc nc) HFI.out.i HGO.out
       have hO2 := own_put39 (b := 0) (s := .slice (some ⟨gz, 0, none⟩) nc nc) OO.out (by decide) HFI.out.i HGO.out
       clear HFI HP OO HK BS
       generalize (Y1.setCell ⟨G, 0, none⟩ (.slice (some ⟨gz, 0, none⟩) nc nc)) = Y2 at *
       have HFI := kept hF2
       have HP := kept hP2
       have OO := kept hO2
       have HK := kept hK2
       clear hF2 hP2 hO2 hK2
       show K _ _
       have f3 : Y2.cell? ⟨L, 3, none⟩ = some (.slice la nc lc) := (by have h9 := HFI.out.box.cell 3; simpa using h9)
       have f5 : Y2.cell? ⟨L, 5, none⟩ = some (.slice (some ⟨G, 0, none⟩) f.nb ic) := (by have h9 := HFI.out.box.cell 5; simpa using h9)
       refine hK.out _ _ ?gh2 (fun hHeld => ?_)
       case gh2 => exact ⟨f3, f5⟩
       clear hK K
       try simp only [Act.put, sA, sB, sC]
       refine wpAnyH_done (by kernel_rfl) ?_ _
       clear hHeld
       clear f3 f5
       have HGF : Hid (GF f th P (I1.set 0 (List.replicate nc false))) := kept (by rw [← HI1.out]; have h9 := gf_start HE.out HTH.out HPO.out; rw [HCS.out, HN.out] at h9; exact h9)
       have HSM := kept (show sumT (I1.set 0 (List.replicate nc false)) ≤ f.nb * nc by rw [← HI1.out]; exact sum_start _ _)
       go_wp2
       go_loopg [6] (f.nb * nc + 1) (fun g a6 wx => ∃ (b : Bool) (I : List (List Bool)) (ws : List Value), a6 = .bool b ∧ Hid (FieldAt wx L f cs th I (.slice la nc lc) (.slice ta f.nb tc) (.slice (some ⟨G, 0, none⟩) f.nb ic) ws) ∧ Hid (GF f th P I) ∧ (b = true → sumT I + 1 ≤ g) ∧ Hid (b = false → StillF f th P I) ∧ Hid (PrRow wx W0.heap.size gp f.nb vp P) ∧ Hid (wx.ownsRow W0.heap.size 3 1 (.slice oa ord.length oc) ord.length (natV ord)) ∧ Keeps W0 wx [])
       case atStart => exact ⟨true, _, _, rfl, HFI.out, HGF.out, fun _ => by have h9 := HSM.out; omega, fun e => (by cases e), HP.out, OO.out, HK.out⟩
       case round =>
        obtain ⟨b, I, ws, rfl, hFI, hGF, hg, hSt, hP, hOO, hr⟩ := hrel
        clear HFI HP OO HK HGF HSM
        have HFI := kept hFI.out
        have HGF := kept hGF.out
        have HST := kept hSt.out
        have HP := kept hP.out
        have OO := kept hOO.out
        have HK := kept hr
        clear hFI hGF hSt hP hOO hr
        cases b
        ·go_wp2
         go_ret
         exact ⟨⟨L, rfl, ⟨th, I, _, _, _, ws, by rw [HCS.out]; exact HFI.out, ⟨hn, by rw [HCS.out, HN.out]; exact hnc, HTH.out.len, HGF.out.il, HGF.out.iw, fun b hb => checks_ok hb, HBD.out⟩, HTH.out, good_of HE.out HTH.out HPO.out HGF.out (HST.out (by first | rfl | trivial))⟩⟩, (TW0.out.and_then HK.out)⟩
        ·have HGH := kept (hg rfl)
         clear hg HST
         obtain ⟨m, hm⟩ : ∃ m, ord.length = m + 1 := ⟨ord.length - 1, by have h9 := HO.out.hd; cases ord with | nil => cases h9 | cons c l => simp⟩
         have HM := kept hm
         obtain ⟨og, oc2, e1, -, hogo, -⟩ := own_at OO.out (by omega)
         simp only [Value.slice.injEq] at e1
         obtain ⟨rfl, -, rfl⟩ := e1
         have hocm := own_capB OO.out
         rw [hm] at hocm
         have HOGO := kept hogo
         clear hogo
         obtain ⟨XA, hadd⟩ : ∃ XA, (if oc = 1 then (some (⟨og, 0, none⟩ : Addr)) else (some (⟨og, 1, none⟩ : Addr))) = XA := ⟨_, rfl⟩
         have HXA := kept (show 0 < m → XA = some ⟨og, 1, none⟩ from fun h => by rw [← hadd, if_neg (by omega)])
         have hm1 : (1 : Int) ≤ (ord.length : Int) := by omega
         have hmm : ord.length - 1 = m := by omega
         have hmB : m ≤ 9223372036854775807 := by have h9 := hocm.2; unfold maxLen at h9; omega
         clear hm
         go_wp2
         go_loopw [6, 58] (fun a' i' wx => ∃ (j : Nat) (g2 : Bool) (I2 : List (List Bool)) (ws2 : List Value), j ≤ m ∧ i' = .int .i64 j ∧ a' = .bool g2 ∧ Hid (FieldAt wx L f cs th I2 (.slice la nc lc) (.slice ta f.nb tc) (.slice (some ⟨G, 0, none⟩) f.nb ic) ws2) ∧ Hid (PassM f th P ord I I2 g2 j) ∧ Hid (PrRow wx W0.heap.size gp f.nb vp P) ∧ Hid (wx.ownsRow W0.heap.size 3 1 (.slice (some ⟨og, 0, none⟩) ord.length oc) ord.length (natV ord)) ∧ Keeps W0 wx []) (fun _ i' _ => m - (intOf i').toNat)
         case atStart => exact ⟨0, false, I, ws, Nat.zero_le _, rfl, rfl, HFI.out, pm_start HGF.out, HP.out, OO.out, HK.out⟩
         case round =>
          obtain ⟨j, g2, I2, ws2, hj, rfl, rfl, hFI, hPM, hP, hOO, hr⟩ := hrel
          clear HFI HP OO HK
          have HFI := kept hFI.out
          have HPM := kept hPM.out
          have HP := kept hP.out
          have OO := kept hOO.out
          have HK := kept hr
          clear hFI hPM hP hOO hr
          by_cases hlj : j < m
          ·have hljz : (j : Int) < (m : Int) := by omega
           obtain rfl := HXA.out (by omega)
           have e0 : wr.cell? ⟨og, 1 + j, none⟩ = some (.int .i64 (ord[j + 1]! : Nat)) := by rw [Nat.add_comm 1 j]; exact (own_cellAt OO.out HOGO.out (i := j + 1) (by rw [HM.out]; omega)).1.trans (natV_at (by rw [HM.out]; omega))
           obtain ⟨hd0, hdr⟩ := ord_ne HO.out (j := j) (by rw [HM.out]; omega)
           have hdn := rway_nb HE.out hdr
           have HD0 := kept hd0
           have HDR := kept hdr
           have PMS := kept (fun he => pm_same (g := g2) HPM.out he)
           have PMP := kept (fun he => pm_put HE.out HTH.out HPO.out HPM.out hdr hd0 he)
           clear hd0 hdr
           have HLI := kept (show I2.length = f.nb from HPM.out.i.il)
           have HLW := kept (HPM.out.i.iw)
           generalize ord[j + 1]! = d at *
           have hdz : (d : Int) < (f.nb : Int) := by omega
           have d0 := HP.out.cell hdn
           have HR := kept (HP.out.r d hdn)
           have HPL := kept (HPO.out.len d hdn)
           have HPN := kept (fun p hp => ((HPO.out.mem d hdn p).1 hp).1)
           generalize vp[d]! = vd at d0 HR
           obtain ⟨va, vc, rfl, -, -⟩ := own_form HR.out
           have HRI := kept (show IntsAt wr (.slice va P[d]!.length vc, P[d]!.map Int.ofNat) from ints_of_own (by have h9 := HR.out; rw [natV_ints] at h9; exact h9))
           have HFO := kept (show FieldOK f cs th I2 from ⟨hn, by rw [HN.out]; exact hnc, HTH.out.len, HLI.out, fun b hb => by have h9 := HLW.out b hb; rw [HCS.out] at h9; exact h9, fun b hb => by have h9 := checks_ok hb; rw [HCS.out] at h9; exact h9, HBD.out⟩)
           have CM := kept (meet_any f cs th I2 _ _ _ ws2 L (.slice va P[d]!.length vc, P[d]!.map Int.ofNat) P[d]! wr HFI.out HFO.out HRI.out rfl HPN.out (by have h9 := HPL.out; omega))
           have HMT := kept (show meetTo f cs th I2 P[d]! P[d]!.length = mtL f th P I2 d by unfold mtL; rw [HCS.out])
           rw [HMT.out] at CM
           simp only [HN.out] at CM
           clear HMT HRI HR HPL HPN
           generalize hmt : mtL f th P I2 d = R at *
           have HMT := kept hmt
           clear hmt
           generalize P[d]!.length = pl at *
           go_upto_region 15 with (first | (go_at_call 63; go_must (refine CM.out.mono ?_); rintro e w3 ⟨⟨sv, rfl, hsv⟩, k3⟩; obtain ⟨sa, sc, rfl, -, -⟩ := own_form hsv; have OS := kept (own_low hsv HK.out.size); clear hsv; replace HFI := kept (HFI.out.keep k3); replace HP := kept (HP.out.keep k3); replace OO := kept (own_keep OO.out k3 (by simp)); replace HK := kept (HK.out.and_then k3); clear k3 d0 e0))
           clear CM
           have f5 : w3.cell? ⟨L, 5, none⟩ = some (.slice (some ⟨G, 0, none⟩) f.nb ic) := (by have h9 := HFI.out.box.cell 5; simpa using h9)
           have i0 : w3.cell? ⟨G, d, none⟩ = some ws2[d]! := (own_cellAt HFI.out.i HGO.out (i := d) (by rw [HLI.out]; omega)).1.trans (getElem?_pos_bang (by have h9 := HFI.out.i.1; rw [HLI.out] at h9; omega))
           have i1 := (own_cellAt HFI.out.i HGO.out (i := d) (by rw [HLI.out]; omega)).2
           have HIR := kept (bits_of_own (HFI.out.ir d (by rw [HLI.out]; exact hdn)))
           have CE := kept (equal_bits _ _ R I2[d]! w3 (bits_of_own OS.out) HIR.out)
           generalize ws2[d]! = wd at *
           cases hde : decide (R = I2[d]!) with
           | true =>
            rw [hde] at CE
            have HEQ := kept (of_decide_eq_true hde)
            clear hde
            go_wp2_with (first | (go_at_call 64; go_must (refine CE.out.mono ?_); rintro e w4 ⟨rfl, k3⟩; replace OS := kept (own_keep OS.out k3 (by simp)); replace HFI := kept (HFI.out.keep k3); replace HP := kept (HP.out.keep k3); replace OO := kept (own_keep OO.out k3 (by simp)); replace HK := kept (HK.out.and_then k3); replace i0 := k3.cellOf i0; replace f5 := k3.cellOf f5; clear i1; have i1 := (own_cellAt HFI.out.i HGO.out (i := d) (by rw [HLI.out]; omega)).2; clear k3))
            go_roundw
            case rel => exact ⟨j + 1, g2, I2, ws2, by omega, by go_num, by first | rfl | trivial, HFI.out, PMS.out HEQ.out, HP.out, OO.out, HK.out⟩
            case measure => simp [intOf]; omega
           | false =>
            rw [hde] at CE
            have HEQ := kept (of_decide_eq_false hde)
            clear hde
            go_wp2_with (first | (go_at_call 64; go_must (refine CE.out.mono ?_); rintro e w4 ⟨rfl, k3⟩; replace OS := kept (own_keep OS.out k3 (by simp)); replace HFI := kept (HFI.out.keep k3); replace HP := kept (HP.out.keep k3); replace OO := kept (own_keep OO.out k3 (by simp)); replace HK := kept (HK.out.and_then k3); replace i0 := k3.cellOf i0; replace f5 := k3.cellOf f5; clear i1; have i1 := (own_cellAt HFI.out.i HGO.out (i := d) (by rw [HLI.out]; omega)).2; clear k3))
            go_roundw
            case rel => exact ⟨j + 1, true, _, _, by omega, by go_num, by first | rfl | trivial, HFI.out.put HGO.out (b := d) (by rw [HLI.out]; exact hdn) (by rw [HN.out]; exact own_low OS.out (Nat.zero_le _)) (HF.out.keep (TW0.out.and_then (HK.out.setCell (.inr HGG.out) _))) (HLA.out _ (HF.out.keep (TW0.out.and_then (HK.out.setCell (.inr HGG.out) _)))), PMP.out HEQ.out, HP.out.put39 HFI.out.i HGO.out, own_put39 OO.out (by decide) HFI.out.i HGO.out, HK.out.setCell (.inr HGG.out) _⟩
            case measure => simp [intOf]; omega
          ·have hljz : ¬ (j : Int) < (m : Int) := by omega
           obtain rfl : j = m := by omega
           go_wp2
           obtain ⟨gq, rfl⟩ : ∃ gq, gk = gq + 1 := ⟨gk - 1, by have h9 := HGH.out; omega⟩
           go_roundg gq
           case measure => omega
           case rel => exact ⟨g2, I2, ws2, rfl, HFI.out, HPM.out.i, fun e => by have h9 := HGH.out; have h8 := HPM.out.yes e; omega, fun e => pm_still HO.out (by have h9 := HPM.out; rw [e] at h9; rw [show ord.length - 1 = j by have h8 := HM.out; omega]; exact h9), HP.out, OO.out, HK.out⟩
      exact AllReadyH.nil
     exact AllReadyH.nil
end Go.Proofs.YtjllbchfojonhaaGreatDoor
