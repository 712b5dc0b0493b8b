/- A program is copied (print.Copy); contract. -/
import Derived.Test.YtjllbchfojonhaaGreatDoorCQ1
import Derived.Deep.CutBlock
import Derived.Deep.Cut
namespace Go.Proofs.YtjllbchfojonhaaGreatDoor
open Go.RowKit Go.Shelf Go.Lib
set_option linter.unusedVariables false
set_option linter.unusedSimpArgs false

theorem IntsAt.keep' {w w' : World} {p : IntsM} (h : IntsAt w p) (k : Keeps w w' []) : IntsAt w' p := Row.keep (show Row w 1 p.1 (p.2.map intCells) from h) k
theorem info95 : (Tryz.prog.info? 95).map (fun i => (i.zero, i.size, i.bytes)) = some (some (.agg #[.int .i64 0, .slice none 0 0, .slice none 0 0]), 3, 56) := by kernel_rfl
theorem info43c : (Tryz.prog.info? 43).map (fun i => (i.zero, i.size, i.bytes)) = some (some (.agg #[.int .i64 0, .int .i64 0, .slice none 0 0, .int .i64 0]), 4, 48) := by kernel_rfl
theorem info38 : (Tryz.prog.info? 38).map (fun i => (i.zero, i.size, i.bytes)) = some (some (.agg #[.string ⟨#[]⟩, .slice none 0 0, .slice none 0 0, .int .i64 0, .int .i64 0, .int .i64 0, .int .i64 0]), 7, 96) := by kernel_rfl

set_option maxRecDepth 100000 in
set_option maxHeartbeats 200000000 in
theorem copy43_any (f : FuncM) (w : World) (hf : FuncAt w f) (hb : CopyB f) : Calls Tryz.prog 43 #[f.val] w fun e w' => (∃ c : FuncM, e = .returned c.val ∧ CopyRet w w' f c) ∧ Keeps w w' [] := by
 have HCB := kept hb
 have CV := kept (fun W (hW : FuncAt W f) => clone_varsR f.vars.1 f.vars.2 W hW.vars hb.nv)
 have CP := kept (fun W (hW : FuncAt W f) => clone_ints f.params.1 f.params.2 W hW.params hb.np)
 have CI := kept (fun (p : IntsM) (hp : p.2.length ≤ 100000) W (hW : IntsAt W p) => clone_ints p.1 p.2 W hW hp)
 obtain ⟨a0, c0, a1, c1, a2, c2, e0, e1, e2, hval, h1, HF, HC0, HC1, HC2, HNV, HNP, HNB⟩ := fopen hf
 rw [e0] at CV
 rw [e1] at CP
 rw [hval]
 rw [HNV.out] at CV e0
 rw [HNP.out] at CP
 have HFV := kept (show f.vars.2.length = f.nv ∧ f.params.2.length = f.np from ⟨rfl, rfl⟩)
 clear hval h1 e0 e1 e2 hf hb HC0 HC1
 have hk0 : Keeps w (w.alloc (.cells #[.slice a0 f.nv c0, .slice a1 f.np c1, .slice a2 f.nb c2] 26)) [] := (Keeps.refl _ []).alloc _
 have bb0 := Blk.new w 26 #[.slice a0 f.nv c0, .slice a1 f.np c1, .slice a2 f.nb c2]
 have hk1 : Keeps (w.alloc (.cells #[.slice a0 f.nv c0, .slice a1 f.np c1, .slice a2 f.nb c2] 26)) ((w.alloc (.cells #[.slice a0 f.nv c0, .slice a1 f.np c1, .slice a2 f.nb c2] 26)).alloc (.cells #[.slice none 0 0, .slice none 0 0, .slice none 0 0] 26)) [] := (Keeps.refl _ []).alloc _
 have bb1 := Blk.new (w.alloc (.cells #[.slice a0 f.nv c0, .slice a1 f.np c1, .slice a2 f.nb c2] 26)) 26 #[.slice none 0 0, .slice none 0 0, .slice none 0 0]
 rw [show (w.alloc (.cells #[.slice a0 f.nv c0, .slice a1 f.np c1, .slice a2 f.nb c2] 26)).heap.size = w.heap.size + 1 by show (Array.push _ _).size = _; simp [Array.size_push]] at bb1
 have Bl := kept (bb0.keep hk1 (by simp))
 have Br := kept bb1
 have HK := kept (hk0.and_then hk1)
 obtain ⟨l0, l1, l2⟩ := Bl.out.c3
 obtain ⟨r0, r1, r2⟩ := Br.out.c3
 simp at l0 l1 l2 r0 r1 r2
 clear hk0 hk1 bb0 bb1
 go_enter Tryz.func43, Tryz.ntmps43
 go_upto_region 1 with (fail)
 clear l0 l1 l2 r0 r1 r2
 generalize ((w.alloc (.cells #[.slice a0 f.nv c0, .slice a1 f.np c1, .slice a2 f.nb c2] 26)).alloc (.cells #[.slice none 0 0, .slice none 0 0, .slice none 0 0] 26)) = W0 at *
 have Bl_W0 := Bl
 have Br_W0 := Br
 have TW0 := HK
 clear HK
 have HK := kept (Keeps.refl W0 [])
 obtain ⟨l0, l1, l2⟩ := Bl.out.c3
 obtain ⟨r0, r1, r2⟩ := Br.out.c3
 simp at l0 l1 l2 r0 r1 r2
 clear r0 r1 r2
 have HWS := kept (show w.heap.size + 1 < W0.heap.size from Br.out.lt)
 go_cut [3] from 11 to 17 (fun t3 wx => ∃ L3 va vc pa0 pc0, t3 = .pointer (some ⟨L3, 0, none⟩) ∧ Hid (Blk wx L3 26 #[.slice va f.nv vc, .slice pa0 f.np pc0, .slice none 0 0]) ∧ Hid (wx.ownsRow W0.heap.size 83 2 (.slice va f.nv vc) f.nv (f.vars.2.map VarM.cells).flatten) ∧ Hid (wx.ownsRow W0.heap.size 3 1 (.slice pa0 f.np pc0) f.np (f.params.2.map (Value.int .i64))) ∧ W0.heap.size ≤ L3 ∧ Keeps W0 wx [])
 case first =>
  refine wp_region_held_drew (S := (fun w' => w'.cell? ⟨w.heap.size, 0, none⟩ = some (.slice a0 f.nv c0) ∧ w'.cell? ⟨w.heap.size, 1, none⟩ = some (.slice a1 f.np c1) ∧ w'.cell? ⟨w.heap.size, 2, none⟩ = some (.slice a2 f.nb c2))) (by kernel_rfl) ?ahS (fun hHeld => ?_)
  case ahS => exact ⟨l0, l1, l2⟩
  clear l0 l1 l2
  replace Bl := kept (Bl.out.keep ((Keeps.refl _ []).drew) (by simp))
  replace Br := kept (Br.out.keep ((Keeps.refl _ []).drew) (by simp))
  replace HK := kept (HK.out.drew)
  generalize World.drew _ = X0a at *
  obtain ⟨l0, l1, l2⟩ := Bl.out.c3
  simp at l0 l1 l2
  refine tp 0 11 rfl hHeld ?_
  refine tp 1 12 rfl hHeld ?_
  refine tp 3 14 rfl hHeld ?_
  refine tp 4 15 rfl hHeld ?_
  refine t2 [2, 7] ?_
  refine t3 (fun K hK => ?_) ?_
  ·clear hHeld
   go_simp
   (with_reducible refine (CV.out _ (HF.out.keep (TW0.out.and_then HK.out))).mono ?_)
   rintro e Y1a ⟨⟨vv, rfl, hv⟩, k3⟩
   have HSX := kept HK.out.size
   obtain ⟨va, vc, rfl, -, -⟩ := own_form hv
   have OV0 := kept (own_low hv HSX.out)
   clear hv HSX
   show K _ _
   clear l0 l1 l2
   replace Bl := kept (Bl.out.keep k3 (by simp))
   replace Br := kept (Br.out.keep k3 (by simp))
   replace HK := kept (HK.out.and_then k3)
   try replace OV := kept (own_keep OV.out k3 (by simp))
   try replace OP := kept (own_keep OP.out k3 (by simp))
   try replace B3 := kept (B3.out.keep k3 (by simp))
   clear k3
   obtain ⟨l0, l1, l2⟩ := Bl.out.c3
   simp at l0 l1 l2
   have OV := OV0
   clear OV0
   refine hK.out _ _ ?ah1 (fun hHeld => ?_)
   case ah1 => exact ⟨l0, l1, l2⟩
   clear hK K
   try simp only [Act.put, sA, sB, sC]
   refine t2 [5, 7] ?_
   refine t3 (fun K hK => ?_) ?_
   ·clear hHeld
    go_simp
    (with_reducible refine (CP.out _ (HF.out.keep (TW0.out.and_then HK.out))).mono ?_)
    rintro e Y2a ⟨⟨pv, rfl, hv⟩, k3⟩
    have HSX := kept HK.out.size
    obtain ⟨pa0, pc0, rfl, -, -⟩ := own_form hv
    have OP0 := kept (own_low hv HSX.out)
    clear hv HSX
    show K _ _
    clear l0 l1 l2
    replace Bl := kept (Bl.out.keep k3 (by simp))
    replace Br := kept (Br.out.keep k3 (by simp))
    replace HK := kept (HK.out.and_then k3)
    try replace OV := kept (own_keep OV.out k3 (by simp))
    try replace OP := kept (own_keep OP.out k3 (by simp))
    try replace B3 := kept (B3.out.keep k3 (by simp))
    clear k3
    obtain ⟨l0, l1, l2⟩ := Bl.out.c3
    simp at l0 l1 l2
    have OP := OP0
    clear OP0
    refine hK.out _ _ ?ah2 (fun hHeld => ?_)
    case ah2 => exact ⟨l0, l1, l2⟩
    clear hK K
    try simp only [Act.put, sA, sB, sC]
    refine tp 6 17 rfl hHeld ?_
    refine t1 7 fun K hK => ?_
    clear hHeld
    go_simp
    have k3 : Keeps Y2a (Y2a.alloc (.cells #[.slice none 0 0, .slice none 0 0, .slice none 0 0] 26)) [] := (Keeps.refl _ []).alloc _
    have B30 := kept (Blk.new Y2a 26 #[.slice none 0 0, .slice none 0 0, .slice none 0 0])
    have HGE := kept HK.out.size
    show K _ _
    clear l0 l1 l2
    replace Bl := kept (Bl.out.keep k3 (by simp))
    replace Br := kept (Br.out.keep k3 (by simp))
    replace HK := kept (HK.out.and_then k3)
    try replace OV := kept (own_keep OV.out k3 (by simp))
    try replace OP := kept (own_keep OP.out k3 (by simp))
    try replace B3 := kept (B3.out.keep k3 (by simp))
    clear k3
    obtain ⟨l0, l1, l2⟩ := Bl.out.c3
    simp at l0 l1 l2
    have B3 := B30
    clear B30
    generalize Y2a.alloc (.cells #[.slice none 0 0, .slice none 0 0, .slice none 0 0] 26) = Y3a at *
    generalize Y2a.heap.size = L3 at *
    refine hK.out _ _ ?ah3 (fun hHeld => ?_)
    case ah3 => exact ⟨l0, l1, l2⟩
    clear hK K
    try simp only [Act.put, sA, sB, sC]
    refine t1 8 fun K hK => ?_
    clear hHeld
    obtain ⟨g0, g1, g2⟩ := B3.out.c3
    simp at g0 g1 g2
    have f0 := B3.out.frozen 0
    have f1 := B3.out.frozen 1
    have f2 := B3.out.frozen 2
    go_simp
    clear g0 g1 g2 f0 f1 f2
    show K _ _
    have k4 : Keeps Y3a (((Y3a.setCell ⟨L3, 0, none⟩ (.slice va f.nv vc)).setCell ⟨L3, 1, none⟩ (.slice pa0 f.np pc0)).setCell ⟨L3, 2, none⟩ (.slice none 0 0)) [L3] := ((((Keeps.refl Y3a [L3]).setCell (.inl (by simp)) _).setCell (.inl (by simp)) _).setCell (.inl (by simp)) _)
    have B31 := kept (((B3.out.set_ 0 (.slice va f.nv vc)).set_ 1 (.slice pa0 f.np pc0)).set_ 2 (.slice none 0 0))
    clear l0 l1 l2
    have HLW := kept (show W0.heap.size ≤ L3 from HGE.out)
    replace Bl := kept (Bl.out.keep k4 (by have h9 := HLW.out; have h8 := HWS.out; simp; omega))
    replace Br := kept (Br.out.keep k4 (by have h9 := HLW.out; have h8 := HWS.out; simp; omega))
    replace OV := kept (own_keep OV.out k4 (fun b hb hm => own_ne OV.out B3.out (by decide) (by rw [hb, List.mem_singleton.1 hm])))
    replace OP := kept (own_keep OP.out k4 (fun b hb hm => own_ne OP.out B3.out (by decide) (by rw [hb, List.mem_singleton.1 hm])))
    replace HK := kept (keeps_mine' HK.out k4 HGE.out)
    clear B3 HGE k4
    have B3 := B31
    clear B31
    generalize (((Y3a.setCell ⟨L3, 0, none⟩ (.slice va f.nv vc)).setCell ⟨L3, 1, none⟩ (.slice pa0 f.np pc0)).setCell ⟨L3, 2, none⟩ (.slice none 0 0)) = Y4a at *
    obtain ⟨l0, l1, l2⟩ := Bl.out.c3
    simp at l0 l1 l2
    refine hK.out _ _ ?ah4 (fun hHeld => ?_)
    case ah4 => exact ⟨l0, l1, l2⟩
    clear hK K
    try simp only [Act.put, sA, sB, sC]
    refine wpAnyH_done (by kernel_rfl) ?_ _
    clear hHeld
    go_wp2
    go_meet
    exact ⟨L3, va, vc, pa0, pc0, rfl, kept (by simpa using B3.out), OV.out, OP.out, HLW.out, HK.out⟩
   refine t3 (fun K hK => ?_) ?_
   ·clear hHeld
    go_simp
    have k3 : Keeps Y1a (Y1a.alloc (.cells #[.slice none 0 0, .slice none 0 0, .slice none 0 0] 26)) [] := (Keeps.refl _ []).alloc _
    have B30 := kept (Blk.new Y1a 26 #[.slice none 0 0, .slice none 0 0, .slice none 0 0])
    have HGE := kept HK.out.size
    show K _ _
    clear l0 l1 l2
    replace Bl := kept (Bl.out.keep k3 (by simp))
    replace Br := kept (Br.out.keep k3 (by simp))
    replace HK := kept (HK.out.and_then k3)
    try replace OV := kept (own_keep OV.out k3 (by simp))
    try replace OP := kept (own_keep OP.out k3 (by simp))
    try replace B3 := kept (B3.out.keep k3 (by simp))
    clear k3
    obtain ⟨l0, l1, l2⟩ := Bl.out.c3
    simp at l0 l1 l2
    have B3 := B30
    clear B30
    generalize Y1a.alloc (.cells #[.slice none 0 0, .slice none 0 0, .slice none 0 0] 26) = Y5a at *
    generalize Y1a.heap.size = L3 at *
    refine hK.out _ _ ?ah5 (fun hHeld => ?_)
    case ah5 => exact ⟨l0, l1, l2⟩
    clear hK K
    try simp only [Act.put, sA, sB, sC]
    refine t1 5 fun K hK => ?_
    clear hHeld
    go_simp
    (with_reducible refine (CP.out _ (HF.out.keep (TW0.out.and_then HK.out))).mono ?_)
    rintro e Y6a ⟨⟨pv, rfl, hv⟩, k3⟩
    have HSX := kept HK.out.size
    obtain ⟨pa0, pc0, rfl, -, -⟩ := own_form hv
    have OP0 := kept (own_low hv HSX.out)
    clear hv HSX
    show K _ _
    clear l0 l1 l2
    replace Bl := kept (Bl.out.keep k3 (by simp))
    replace Br := kept (Br.out.keep k3 (by simp))
    replace HK := kept (HK.out.and_then k3)
    try replace OV := kept (own_keep OV.out k3 (by simp))
    try replace OP := kept (own_keep OP.out k3 (by simp))
    try replace B3 := kept (B3.out.keep k3 (by simp))
    clear k3
    obtain ⟨l0, l1, l2⟩ := Bl.out.c3
    simp at l0 l1 l2
    have OP := OP0
    clear OP0
    refine hK.out _ _ ?ah6 (fun hHeld => ?_)
    case ah6 => exact ⟨l0, l1, l2⟩
    clear hK K
    try simp only [Act.put, sA, sB, sC]
    refine tp 6 17 rfl hHeld ?_
    refine t1 8 fun K hK => ?_
    clear hHeld
    obtain ⟨g0, g1, g2⟩ := B3.out.c3
    simp at g0 g1 g2
    have f0 := B3.out.frozen 0
    have f1 := B3.out.frozen 1
    have f2 := B3.out.frozen 2
    go_simp
    clear g0 g1 g2 f0 f1 f2
    show K _ _
    have k4 : Keeps Y6a (((Y6a.setCell ⟨L3, 0, none⟩ (.slice va f.nv vc)).setCell ⟨L3, 1, none⟩ (.slice pa0 f.np pc0)).setCell ⟨L3, 2, none⟩ (.slice none 0 0)) [L3] := ((((Keeps.refl Y6a [L3]).setCell (.inl (by simp)) _).setCell (.inl (by simp)) _).setCell (.inl (by simp)) _)
    have B31 := kept (((B3.out.set_ 0 (.slice va f.nv vc)).set_ 1 (.slice pa0 f.np pc0)).set_ 2 (.slice none 0 0))
    clear l0 l1 l2
    have HLW := kept (show W0.heap.size ≤ L3 from HGE.out)
    replace Bl := kept (Bl.out.keep k4 (by have h9 := HLW.out; have h8 := HWS.out; simp; omega))
    replace Br := kept (Br.out.keep k4 (by have h9 := HLW.out; have h8 := HWS.out; simp; omega))
    replace OV := kept (own_keep OV.out k4 (fun b hb hm => own_ne OV.out B3.out (by decide) (by rw [hb, List.mem_singleton.1 hm])))
    replace OP := kept (own_keep OP.out k4 (fun b hb hm => own_ne OP.out B3.out (by decide) (by rw [hb, List.mem_singleton.1 hm])))
    replace HK := kept (keeps_mine' HK.out k4 HGE.out)
    clear B3 HGE k4
    have B3 := B31
    clear B31
    generalize (((Y6a.setCell ⟨L3, 0, none⟩ (.slice va f.nv vc)).setCell ⟨L3, 1, none⟩ (.slice pa0 f.np pc0)).setCell ⟨L3, 2, none⟩ (.slice none 0 0)) = Y7a at *
    obtain ⟨l0, l1, l2⟩ := Bl.out.c3
    simp at l0 l1 l2
    refine hK.out _ _ ?ah7 (fun hHeld => ?_)
    case ah7 => exact ⟨l0, l1, l2⟩
    clear hK K
    try simp only [Act.put, sA, sB, sC]
    refine wpAnyH_done (by kernel_rfl) ?_ _
    clear hHeld
    go_wp2
    go_meet
    exact ⟨L3, va, vc, pa0, pc0, rfl, kept (by simpa using B3.out), OV.out, OP.out, HLW.out, HK.out⟩
   exact t4
  refine t3 (fun K hK => ?_) ?_
  ·clear hHeld
   go_simp
   have k3 : Keeps X0a (X0a.alloc (.cells #[.slice none 0 0, .slice none 0 0, .slice none 0 0] 26)) [] := (Keeps.refl _ []).alloc _
   have B30 := kept (Blk.new X0a 26 #[.slice none 0 0, .slice none 0 0, .slice none 0 0])
   have HGE := kept HK.out.size
   show K _ _
   clear l0 l1 l2
   replace Bl := kept (Bl.out.keep k3 (by simp))
   replace Br := kept (Br.out.keep k3 (by simp))
   replace HK := kept (HK.out.and_then k3)
   try replace OV := kept (own_keep OV.out k3 (by simp))
   try replace OP := kept (own_keep OP.out k3 (by simp))
   try replace B3 := kept (B3.out.keep k3 (by simp))
   clear k3
   obtain ⟨l0, l1, l2⟩ := Bl.out.c3
   simp at l0 l1 l2
   have B3 := B30
   clear B30
   generalize X0a.alloc (.cells #[.slice none 0 0, .slice none 0 0, .slice none 0 0] 26) = Y8a at *
   generalize X0a.heap.size = L3 at *
   refine hK.out _ _ ?ah8 (fun hHeld => ?_)
   case ah8 => exact ⟨l0, l1, l2⟩
   clear hK K
   try simp only [Act.put, sA, sB, sC]
   refine t1 2 fun K hK => ?_
   clear hHeld
   go_simp
   (with_reducible refine (CV.out _ (HF.out.keep (TW0.out.and_then HK.out))).mono ?_)
   rintro e Y9a ⟨⟨vv, rfl, hv⟩, k3⟩
   have HSX := kept HK.out.size
   obtain ⟨va, vc, rfl, -, -⟩ := own_form hv
   have OV0 := kept (own_low hv HSX.out)
   clear hv HSX
   show K _ _
   clear l0 l1 l2
   replace Bl := kept (Bl.out.keep k3 (by simp))
   replace Br := kept (Br.out.keep k3 (by simp))
   replace HK := kept (HK.out.and_then k3)
   try replace OV := kept (own_keep OV.out k3 (by simp))
   try replace OP := kept (own_keep OP.out k3 (by simp))
   try replace B3 := kept (B3.out.keep k3 (by simp))
   clear k3
   obtain ⟨l0, l1, l2⟩ := Bl.out.c3
   simp at l0 l1 l2
   have OV := OV0
   clear OV0
   refine hK.out _ _ ?ah9 (fun hHeld => ?_)
   case ah9 => exact ⟨l0, l1, l2⟩
   clear hK K
   try simp only [Act.put, sA, sB, sC]
   refine t1 5 fun K hK => ?_
   clear hHeld
   go_simp
   (with_reducible refine (CP.out _ (HF.out.keep (TW0.out.and_then HK.out))).mono ?_)
   rintro e Y10a ⟨⟨pv, rfl, hv⟩, k3⟩
   have HSX := kept HK.out.size
   obtain ⟨pa0, pc0, rfl, -, -⟩ := own_form hv
   have OP0 := kept (own_low hv HSX.out)
   clear hv HSX
   show K _ _
   clear l0 l1 l2
   replace Bl := kept (Bl.out.keep k3 (by simp))
   replace Br := kept (Br.out.keep k3 (by simp))
   replace HK := kept (HK.out.and_then k3)
   try replace OV := kept (own_keep OV.out k3 (by simp))
   try replace OP := kept (own_keep OP.out k3 (by simp))
   try replace B3 := kept (B3.out.keep k3 (by simp))
   clear k3
   obtain ⟨l0, l1, l2⟩ := Bl.out.c3
   simp at l0 l1 l2
   have OP := OP0
   clear OP0
   refine hK.out _ _ ?ah10 (fun hHeld => ?_)
   case ah10 => exact ⟨l0, l1, l2⟩
   clear hK K
   try simp only [Act.put, sA, sB, sC]
   refine tp 6 17 rfl hHeld ?_
   refine t1 8 fun K hK => ?_
   clear hHeld
   obtain ⟨g0, g1, g2⟩ := B3.out.c3
   simp at g0 g1 g2
   have f0 := B3.out.frozen 0
   have f1 := B3.out.frozen 1
   have f2 := B3.out.frozen 2
   go_simp
   clear g0 g1 g2 f0 f1 f2
   show K _ _
   have k4 : Keeps Y10a (((Y10a.setCell ⟨L3, 0, none⟩ (.slice va f.nv vc)).setCell ⟨L3, 1, none⟩ (.slice pa0 f.np pc0)).setCell ⟨L3, 2, none⟩ (.slice none 0 0)) [L3] := ((((Keeps.refl Y10a [L3]).setCell (.inl (by simp)) _).setCell (.inl (by simp)) _).setCell (.inl (by simp)) _)
   have B31 := kept (((B3.out.set_ 0 (.slice va f.nv vc)).set_ 1 (.slice pa0 f.np pc0)).set_ 2 (.slice none 0 0))
   clear l0 l1 l2
   have HLW := kept (show W0.heap.size ≤ L3 from HGE.out)
   replace Bl := kept (Bl.out.keep k4 (by have h9 := HLW.out; have h8 := HWS.out; simp; omega))
   replace Br := kept (Br.out.keep k4 (by have h9 := HLW.out; have h8 := HWS.out; simp; omega))
   replace OV := kept (own_keep OV.out k4 (fun b hb hm => own_ne OV.out B3.out (by decide) (by rw [hb, List.mem_singleton.1 hm])))
   replace OP := kept (own_keep OP.out k4 (fun b hb hm => own_ne OP.out B3.out (by decide) (by rw [hb, List.mem_singleton.1 hm])))
   replace HK := kept (keeps_mine' HK.out k4 HGE.out)
   clear B3 HGE k4
   have B3 := B31
   clear B31
   generalize (((Y10a.setCell ⟨L3, 0, none⟩ (.slice va f.nv vc)).setCell ⟨L3, 1, none⟩ (.slice pa0 f.np pc0)).setCell ⟨L3, 2, none⟩ (.slice none 0 0)) = Y11a at *
   obtain ⟨l0, l1, l2⟩ := Bl.out.c3
   simp at l0 l1 l2
   refine hK.out _ _ ?ah11 (fun hHeld => ?_)
   case ah11 => exact ⟨l0, l1, l2⟩
   clear hK K
   try simp only [Act.put, sA, sB, sC]
   refine wpAnyH_done (by kernel_rfl) ?_ _
   clear hHeld
   go_wp2
   go_meet
   exact ⟨L3, va, vc, pa0, pc0, rfl, kept (by simpa using B3.out), OV.out, OP.out, HLW.out, HK.out⟩
  exact t4
 case rest =>
  obtain ⟨L3, va, vc, pa0, pc0, rfl, hB3, hOV, hOP, hGE, hr⟩ := hcut
  have HCI := kept (CopyI.mk (W0 := W0) (f := f) (zs := []) hB3.out hOV.out hOP.out (World.ownsRow_nil _ _ _ _) (fun k hk => absurd hk (Nat.not_lt_zero _)) (fun a b ha => absurd ha (Nat.not_lt_zero _)) (fun k hk => absurd hk (Nat.not_lt_zero _)) hGE hr)
  clear hB3 hOV hOP hGE hr l0 l1 l2 CV CP
  replace Bl := kept (Bl_W0.out.keep HCI.out.k (by simp))
  replace Br := kept (Br_W0.out.keep HCI.out.k (by simp))
  clear HK
  obtain ⟨l0, l1, l2⟩ := Bl.out.c3
  simp at l0 l1 l2
  obtain ⟨i95, hi95, he95⟩ := Option.map_eq_some_iff.1 info95
  obtain ⟨i43, hi43, he43⟩ := Option.map_eq_some_iff.1 info43c
  obtain ⟨i38, hi38, he38⟩ := Option.map_eq_some_iff.1 info38
  simp only [Prod.mk.injEq] at he95 he43 he38
  obtain ⟨hz95, hs95, hb95⟩ := he95
  obtain ⟨hz43, hs43, hb43⟩ := he43
  obtain ⟨hz38, hs38, hb38⟩ := he38
  go_wp2
  go_loopw [21] (fun i' wx => ∃ (b : Nat) (bv : Value) (zs : List BlockM), b ≤ f.nb ∧ zs.length = b ∧ i' = .int .i64 b ∧ CopyI W0 wx L3 (.slice va f.nv vc) (.slice pa0 f.np pc0) bv f zs) (fun i' _ => f.nb - (intOf i').toNat)
  case atStart => exact ⟨0, _, [], Nat.zero_le _, rfl, rfl, HCI.out⟩
  case round =>
   obtain ⟨b, bv, zs, hb, hzl, rfl, hci⟩ := hrel
   clear HCI
   have HCI := kept hci
   clear hci l0 l1 l2
   obtain ⟨ba, bc, rfl, -, -⟩ := own_form HCI.out.rows
   rw [hzl] at HCI
   replace Bl := kept (Bl_W0.out.keep HCI.out.k (by simp))
   replace Br := kept (Br_W0.out.keep HCI.out.k (by simp))
   obtain ⟨l0, l1, l2⟩ := Bl.out.c3
   simp at l0 l1 l2
   by_cases hlb : b < f.nb
   ·have hlbz : (b : Int) < (f.nb : Int) := by omega
    obtain ⟨yb, yo, e8, hyb, hbc⟩ := HC2.out b (by rw [HNB.out]; exact hlb)
    obtain rfl := e8
    have HBA := kept (HF.out.block _ (bang_mem (l := f.blocks.2) (k := b) hlb))
    obtain ⟨pa, pc, pe, -, -, hpc⟩ := HBA.out.phis.open_
    obtain ⟨qa, qc, qe, -, -, hqc⟩ := HBA.out.insts.open_
    have HPC := kept hpc
    have HQC := kept hqc
    have HBI := kept (HCB.out.ins b hlb)
    have HBP := kept (HCB.out.phi b hlb)
    have HKW := kept (TW0.out.and_then HCI.out.k)
    have SNO := kept (fun (o : Obj) (W3 W : World) (bv' : Value) (z : BlockM) (h : CopyI W0 W L3 (.slice va f.nv vc) (.slice pa0 f.np pc0) (.slice ba b bc) f zs) h1 h2 (h3 : BlkS f.blocks.2[b]!.insts.2 f.blocks.2[b]! z) h4 h5 => CopyI.snoc (o := o) (W3 := W3) (bv' := bv') h (z := z) h1 h2 (by rw [hzl]; exact h3) h4 h5)
    have n0 := HKW.out.cellOf (hbc 0 _ rfl)
    have n1 := HKW.out.cellOf (hbc 1 _ rfl)
    have n2 := HKW.out.cellOf (hbc 2 _ rfl)
    have n3 := HKW.out.cellOf (hbc 3 _ rfl)
    have n4 := HKW.out.cellOf (hbc 4 _ rfl)
    have n5 := HKW.out.cellOf (hbc 5 _ rfl)
    have n6 := HKW.out.cellOf (hbc 6 _ rfl)
    simp only [Nat.add_zero] at n0
    rw [pe] at n1
    rw [qe] at n2
    clear hbc pe qe hpc hqc
    obtain ⟨y, hy⟩ : ∃ y, f.blocks.2[b]! = y := ⟨_, rfl⟩
    rw [hy] at n0 n1 n2 n3 n4 n5 n6 HBA HPC HQC HBI HBP SNO
    clear hy
    obtain ⟨pn, hpn⟩ : ∃ pn, y.phis.2.length = pn := ⟨_, rfl⟩
    rw [hpn] at n1 HPC HBP
    have HPN := kept hpn
    clear hpn
    obtain ⟨qn, hqn⟩ : ∃ qn, y.insts.2.length = qn := ⟨_, rfl⟩
    rw [hqn] at n2 HQC HBI
    have HQN := kept hqn
    clear hqn
    obtain ⟨Wb, hWb⟩ : ∃ Wb : World, Wb = wr := ⟨_, rfl⟩
    subst hWb
    have HWB := HCI
    have TB := HKW
    go_upto_region 6 with (fail)
    clear n0 n1 n2 n3 n4 n5 n6 l0 l1 l2
    have k5 : Keeps Wb (Wb.alloc (.cells #[.string y.name, .slice pa pn pc, .slice qa qn qc, .int .i64 y.kind, .int .i64 y.var, .int .i64 y.to0, .int .i64 y.to1] 38)) [] := (Keeps.refl _ []).alloc _
    have B50 := Blk.new Wb 38 #[.string y.name, .slice pa pn pc, .slice qa qn qc, .int .i64 y.kind, .int .i64 y.var, .int .i64 y.to0, .int .i64 y.to1]
    have k6 : Keeps (Wb.alloc (.cells #[.string y.name, .slice pa pn pc, .slice qa qn qc, .int .i64 y.kind, .int .i64 y.var, .int .i64 y.to0, .int .i64 y.to1] 38)) ((Wb.alloc (.cells #[.string y.name, .slice pa pn pc, .slice qa qn qc, .int .i64 y.kind, .int .i64 y.var, .int .i64 y.to0, .int .i64 y.to1] 38)).alloc (.cells #[.string y.name, .slice none 0 0, .slice none 0 0, .int .i64 y.kind, .int .i64 y.var, .int .i64 y.to0, .int .i64 y.to1] 38)) [] := (Keeps.refl _ []).alloc _
    have B60 := Blk.new (Wb.alloc (.cells #[.string y.name, .slice pa pn pc, .slice qa qn qc, .int .i64 y.kind, .int .i64 y.var, .int .i64 y.to0, .int .i64 y.to1] 38)) 38 #[.string y.name, .slice none 0 0, .slice none 0 0, .int .i64 y.kind, .int .i64 y.var, .int .i64 y.to0, .int .i64 y.to1]
    rw [show (Wb.alloc (.cells #[.string y.name, .slice pa pn pc, .slice qa qn qc, .int .i64 y.kind, .int .i64 y.var, .int .i64 y.to0, .int .i64 y.to1] 38)).heap.size = Wb.heap.size + 1 by show (Array.push _ _).size = _; simp [Array.size_push]] at B60
    have B5 := kept (B50.keep k6 (by simp))
    have B6 := kept B60
    have HK := kept (k5.and_then k6)
    clear k5 k6 B50 B60
    generalize (Wb.alloc (.cells #[.string y.name, .slice pa pn pc, .slice qa qn qc, .int .i64 y.kind, .int .i64 y.var, .int .i64 y.to0, .int .i64 y.to1] 38)).alloc (.cells #[.string y.name, .slice none 0 0, .slice none 0 0, .int .i64 y.kind, .int .i64 y.var, .int .i64 y.to0, .int .i64 y.to1] 38) = W1 at *
    obtain ⟨L5, hL5⟩ : ∃ L5, Wb.heap.size = L5 := ⟨_, rfl⟩
    obtain ⟨L6, hL6⟩ : ∃ L6, Wb.heap.size + 1 = L6 := ⟨_, rfl⟩
    have HL := kept (show Wb.heap.size ≤ L5 ∧ Wb.heap.size ≤ L6 ∧ L5 ≠ L6 by omega)
    rw [hL5] at B5
    rw [hL6] at B6
    simp only [hL6]
    simp only [hL5]
    clear hL5 hL6
    have HPI := kept (show PhiI Wb.heap.size W1 (.slice none 0 0) y [] from ⟨World.ownsRow_nil _ _ _ _, fun p hp => absurd hp List.not_mem_nil, Nat.zero_le _, fun k hk => absurd hk (Nat.not_lt_zero _)⟩)
    obtain ⟨g0, g1, g2, g3, g4, g5, g6⟩ := B5.out.c7
    simp at g0 g1 g2 g3 g4 g5 g6
    clear g0 g2 g3 g4 g5 g6
    go_wp2
    clear g1
    go_loopw [33] (fun i' wx => ∃ (m : Nat) (phv : Value) (qs : List PhiM), m ≤ pn ∧ qs.length = m ∧ i' = .int .i64 m ∧ Blk wx L5 38 #[.string y.name, .slice pa pn pc, .slice qa qn qc, .int .i64 y.kind, .int .i64 y.var, .int .i64 y.to0, .int .i64 y.to1] ∧ Blk wx L6 38 #[.string y.name, phv, .slice none 0 0, .int .i64 y.kind, .int .i64 y.var, .int .i64 y.to0, .int .i64 y.to1] ∧ PhiI Wb.heap.size wx phv y qs ∧ Keeps Wb wx []) (fun i' _ => pn - (intOf i').toNat)
    case atStart => exact ⟨0, _, [], Nat.zero_le _, rfl, rfl, B5.out, B6.out, HPI.out, HK.out⟩
    case round =>
     obtain ⟨m, phv, qs, hm, hql, rfl, hB5, hB6, hPI, hr⟩ := hrel
     clear B5 B6 HPI HK
     have B5 := kept hB5
     have B6 := kept hB6
     have HPI := kept hPI
     have HK := kept hr
     clear hB5 hB6 hPI hr
     have HQL := kept hql
     clear hql
     obtain ⟨va1, vc1, rfl, -, -⟩ := own_form HPI.out.row
     rw [HQL.out] at B6
     by_cases hlm : m < pn
     ·have hlmz : (m : Int) < (pn : Int) := by omega
      have hmp : m < y.phis.2.length := by rw [HPN.out]; exact hlm
      obtain ⟨pb, po, e8, -, hcp⟩ := HPC.out m (by first | exact hlm | exact hmp)
      obtain rfl := e8
      have hpp := HBA.out.phi _ (bang_mem hmp)
      have hpl := HBP.out.2 _ (bang_mem hmp)
      have HPS := kept (show ∀ q, PhiS y.phis.2[m]! q → PhiS y.phis.2[m]! q from fun _ h => h)
      obtain ⟨aa, ac, ea, -, -, -⟩ := hpp.1.open_
      obtain ⟨fa, fc, ef, -, -, -⟩ := hpp.2.open_
      have HKX := kept (TB.out.and_then HK.out)
      have n0 := HKX.out.cellOf (hcp 0 _ rfl)
      have n1 := HKX.out.cellOf (hcp 1 _ rfl)
      have n2 := HKX.out.cellOf (hcp 2 _ rfl)
      simp only [Nat.add_zero] at n0
      rw [ea] at n1
      rw [ef] at n2
      have CA := kept (fun W (hW : IntsAt W y.phis.2[m]!.args) => CI.out y.phis.2[m]!.args hpl.1 W hW)
      have CF := kept (fun W (hW : IntsAt W y.phis.2[m]!.froms) => CI.out y.phis.2[m]!.froms hpl.2 W hW)
      rw [ea] at CA
      rw [ef] at CF
      have HPA := kept (show IntsAt w y.phis.2[m]!.args ∧ IntsAt w y.phis.2[m]!.froms from hpp)
      clear hcp hpp ea ef hpl
      obtain ⟨p, hp⟩ : ∃ p, y.phis.2[m]! = p := ⟨_, rfl⟩
      rw [hp] at n0 n1 n2 CA CF HPA HPS
      have HP := kept hp
      clear hp
      obtain ⟨al, hal⟩ : ∃ al, p.args.2.length = al := ⟨_, rfl⟩
      rw [hal] at n1 CA
      have HAL := kept hal
      clear hal
      obtain ⟨fl, hfl⟩ : ∃ fl, p.froms.2.length = fl := ⟨_, rfl⟩
      rw [hfl] at n2 CF
      have HFL := kept hfl
      clear hfl
      go_upto_region 9 with (fail)
      clear n0 n1 n2
      have k8 : Keeps wr (wr.alloc (.cells #[.int .i64 p.dst, .slice aa al ac, .slice fa fl fc] 95)) [] := (Keeps.refl _ []).alloc _
      have B8 := kept (Blk.new wr 95 #[.int .i64 p.dst, .slice aa al ac, .slice fa fl fc])
      replace B5 := kept (B5.out.keep k8 (by simp))
      replace B6 := kept (B6.out.keep k8 (by simp))
      have HPI0 := HPI
      replace HPI := kept (HPI.out.keep k8)
      replace HK := kept (HK.out.and_then k8)
      clear k8
      have HN8 := kept (show ∀ z, (Value.slice va1 m vc1).ownBlock = some z → z ≠ wr.heap.size from fun z hz e => by have h8 := HPI0.out.row; rw [HQL.out] at h8; have h9 := (own_lt h8 hz).1; omega)
      clear HPI0
      generalize wr.alloc (.cells #[.int .i64 p.dst, .slice aa al ac, .slice fa fl fc] 95) = W2 at *
      generalize wr.heap.size = L8 at *
      have q0 : W2.cell? ⟨L6, 1, none⟩ = some (.slice va1 m vc1) := (B6.out.cell 1).trans rfl
      have q1 : W2.cell? ⟨L8, 0, none⟩ = some (.int .i64 p.dst) := (B8.out.cell 0).trans rfl
      have q2 : W2.cell? ⟨L8, 1, none⟩ = some (.slice aa al ac) := (B8.out.cell 1).trans rfl
      have q3 : W2.cell? ⟨L8, 2, none⟩ = some (.slice fa fl fc) := (B8.out.cell 2).trans rfl
      refine wp_region_held_drew (S := (fun w' => w'.cell? ⟨L8, 0, none⟩ = some (.int .i64 p.dst) ∧ w'.cell? ⟨L8, 1, none⟩ = some (.slice aa al ac) ∧ w'.cell? ⟨L8, 2, none⟩ = some (.slice fa fl fc))) (by kernel_rfl) ?bhS (fun hHeld => ?_)
      case bhS => exact ⟨q1, q2, q3⟩
      have k3 : Keeps W2 (World.drew W2) [] := (Keeps.refl _ []).drew
      clear q0 q1 q2 q3
      replace B5 := kept (B5.out.keep k3 (by simp))
      replace B6 := kept (B6.out.keep k3 (by simp))
      replace B8 := kept (B8.out.keep k3 (by simp))
      replace HPI := kept (HPI.out.keep k3)
      replace HK := kept (HK.out.and_then k3)
      try replace OA := kept (own_keep OA.out k3 (by simp))
      try replace OF := kept (own_keep OF.out k3 (by simp))
      try replace B9 := kept (B9.out.keep k3 (by simp))
      clear k3
      generalize World.drew W2 = X0b at *
      have q0 : X0b.cell? ⟨L6, 1, none⟩ = some (.slice va1 m vc1) := (B6.out.cell 1).trans rfl
      have q1 : X0b.cell? ⟨L8, 0, none⟩ = some (.int .i64 p.dst) := (B8.out.cell 0).trans rfl
      have q2 : X0b.cell? ⟨L8, 1, none⟩ = some (.slice aa al ac) := (B8.out.cell 1).trans rfl
      have q3 : X0b.cell? ⟨L8, 2, none⟩ = some (.slice fa fl fc) := (B8.out.cell 2).trans rfl
      refine tp 0 37 rfl hHeld ?_
      refine tp 2 39 rfl hHeld ?_
      refine tp 3 40 rfl hHeld ?_
      refine tp 4 41 rfl hHeld ?_
      refine tp 5 42 rfl hHeld ?_
      refine tp 7 44 rfl hHeld ?_
      refine tp 8 45 rfl hHeld ?_
      refine t2 [1, 6] ?_
      refine t3 (fun K hK => ?_) ?_
      ·clear hHeld
       go_simp
       show K _ _
       refine hK.out _ _ ?bh1 (fun hHeld => ?_)
       case bh1 => exact ⟨q1, q2, q3⟩
       clear hK K
       try simp only [Act.put, sA, sB, sC]
       refine t1 6 fun K hK => ?_
       clear hHeld
       go_simp
       (with_reducible refine (CA.out _ (IntsAt.keep' HPA.out.1 (TB.out.and_then HK.out))).mono ?_)
       rintro e Y2b ⟨⟨vv, rfl, hv⟩, k3⟩
       have HSX := kept HK.out.size
       obtain ⟨na, nc, rfl, -, -⟩ := own_form hv
       have OA0 := kept (own_low hv HSX.out)
       clear hv HSX
       show K _ _
       clear q0 q1 q2 q3
       replace B5 := kept (B5.out.keep k3 (by simp))
       replace B6 := kept (B6.out.keep k3 (by simp))
       replace B8 := kept (B8.out.keep k3 (by simp))
       replace HPI := kept (HPI.out.keep k3)
       replace HK := kept (HK.out.and_then k3)
       try replace OA := kept (own_keep OA.out k3 (by simp))
       try replace OF := kept (own_keep OF.out k3 (by simp))
       try replace B9 := kept (B9.out.keep k3 (by simp))
       clear k3
       have OA := OA0
       clear OA0
       have q0 : Y2b.cell? ⟨L6, 1, none⟩ = some (.slice va1 m vc1) := (B6.out.cell 1).trans rfl
       have q1 : Y2b.cell? ⟨L8, 0, none⟩ = some (.int .i64 p.dst) := (B8.out.cell 0).trans rfl
       have q2 : Y2b.cell? ⟨L8, 1, none⟩ = some (.slice aa al ac) := (B8.out.cell 1).trans rfl
       have q3 : Y2b.cell? ⟨L8, 2, none⟩ = some (.slice fa fl fc) := (B8.out.cell 2).trans rfl
       refine hK.out _ _ ?bh2 (fun hHeld => ?_)
       case bh2 => exact ⟨q1, q2, q3⟩
       clear hK K
       try simp only [Act.put, sA, sB, sC]
       refine t1 9 fun K hK => ?_
       clear hHeld
       go_simp
       (with_reducible refine (CF.out _ (IntsAt.keep' HPA.out.2 (TB.out.and_then HK.out))).mono ?_)
       rintro e Y3b ⟨⟨vv, rfl, hv⟩, k3⟩
       have HSX := kept HK.out.size
       obtain ⟨ma, mc, rfl, -, -⟩ := own_form hv
       have OF0 := kept (own_low hv HSX.out)
       clear hv HSX
       show K _ _
       clear q0 q1 q2 q3
       replace B5 := kept (B5.out.keep k3 (by simp))
       replace B6 := kept (B6.out.keep k3 (by simp))
       replace B8 := kept (B8.out.keep k3 (by simp))
       replace HPI := kept (HPI.out.keep k3)
       replace HK := kept (HK.out.and_then k3)
       try replace OA := kept (own_keep OA.out k3 (by simp))
       try replace OF := kept (own_keep OF.out k3 (by simp))
       try replace B9 := kept (B9.out.keep k3 (by simp))
       clear k3
       have OF := OF0
       clear OF0
       have q0 : Y3b.cell? ⟨L6, 1, none⟩ = some (.slice va1 m vc1) := (B6.out.cell 1).trans rfl
       have q1 : Y3b.cell? ⟨L8, 0, none⟩ = some (.int .i64 p.dst) := (B8.out.cell 0).trans rfl
       have q2 : Y3b.cell? ⟨L8, 1, none⟩ = some (.slice aa al ac) := (B8.out.cell 1).trans rfl
       have q3 : Y3b.cell? ⟨L8, 2, none⟩ = some (.slice fa fl fc) := (B8.out.cell 2).trans rfl
       refine hK.out _ _ ?bh3 (fun hHeld => ?_)
       case bh3 => exact ⟨q1, q2, q3⟩
       clear hK K
       try simp only [Act.put, sA, sB, sC]
       refine tp 10 47 rfl hHeld ?_
       refine t1 11 fun K hK => ?_
       clear hHeld
       go_simp
       have k3 : Keeps Y3b (Y3b.alloc (.cells #[.int .i64 p.dst, .slice na al nc, .slice ma fl mc] 95)) [] := (Keeps.refl _ []).alloc _
       have B90 := kept (Blk.new Y3b 95 #[.int .i64 p.dst, .slice na al nc, .slice ma fl mc])
       show K _ _
       clear q0 q1 q2 q3
       replace B5 := kept (B5.out.keep k3 (by simp))
       replace B6 := kept (B6.out.keep k3 (by simp))
       replace B8 := kept (B8.out.keep k3 (by simp))
       replace HPI := kept (HPI.out.keep k3)
       replace HK := kept (HK.out.and_then k3)
       try replace OA := kept (own_keep OA.out k3 (by simp))
       try replace OF := kept (own_keep OF.out k3 (by simp))
       try replace B9 := kept (B9.out.keep k3 (by simp))
       clear k3
       have B9 := B90
       clear B90
       generalize Y3b.alloc (.cells #[.int .i64 p.dst, .slice na al nc, .slice ma fl mc] 95) = Y4b at *
       generalize Y3b.heap.size = g9 at *
       have q0 : Y4b.cell? ⟨L6, 1, none⟩ = some (.slice va1 m vc1) := (B6.out.cell 1).trans rfl
       have q1 : Y4b.cell? ⟨L8, 0, none⟩ = some (.int .i64 p.dst) := (B8.out.cell 0).trans rfl
       have q2 : Y4b.cell? ⟨L8, 1, none⟩ = some (.slice aa al ac) := (B8.out.cell 1).trans rfl
       have q3 : Y4b.cell? ⟨L8, 2, none⟩ = some (.slice fa fl fc) := (B8.out.cell 2).trans rfl
       refine hK.out _ _ ?bh4 (fun hHeld => ?_)
       case bh4 => exact ⟨q1, q2, q3⟩
       clear hK K
       try simp only [Act.put, sA, sB, sC]
       refine t1 12 fun K hK => ?_
       clear hHeld
       refine step_row rfl (.tmp 38) (.tmp 48) 31 rfl Wb.heap.size 95 i95 (.agg #[.int .i64 0, .slice none 0 0, .slice none 0 0]) 3 56 Tryz.underlying31 hi95 hz95 hs95 hb95 rfl (by decide) (.slice va1 m vc1) m (qs.map PhiM.cells).flatten rfl (by have h9 := HPI.out.row; rw [HQL.out] at h9; exact h9) (.slice (some ⟨g9, 0, none⟩) 1 1) [[.int .i64 p.dst, .slice na al nc, .slice ma fl mc]] rfl (row_single B9.out) (by simp) (by simp [Value.oneCell']) (by have h9 := HBP.out.1; simp; unfold maxLen; omega) (by have h9 := HBP.out.1; simp; omega) HK.out.size ?_
       intro v' Y5b hown hgrow
       obtain ⟨ua, uc, rfl, -, -⟩ := own_form hown
       have HOW := kept hown
       have HGR := kept hgrow
       clear hown hgrow
       show K _ _
       clear q0 q1 q2 q3
       have HRW := kept (show World.ownsRow _ Wb.heap.size 95 3 (.slice va1 m vc1) m (qs.map PhiM.cells).flatten by have h9 := HPI.out.row; rw [HQL.out] at h9; exact h9)
       have T3 := kept (tk_grown (T := 3) HRW.out (by decide) HGR.out)
       replace B5 := kept (blk_grown0 B5.out HRW.out (by decide) HGR.out)
       replace B6 := kept (blk_grown0 B6.out HRW.out (by decide) HGR.out)
       replace OA := kept (own_tk OA.out T3.out)
       replace OF := kept (own_tk OF.out T3.out)
       replace B8 := kept (B8.out.keep ((Keeps.refl _ (Value.slice va1 m vc1).ownBlock.toList).grown HGR.out (fun z hz => .inl (by rw [hz]; simp))) (fun hm => by rw [Option.mem_toList] at hm; exact HN8.out _ hm rfl))
       replace HK := kept (HK.out.grown HGR.out (fun z hz => .inr (own_lt HRW.out hz).2))
       clear B9 HRW HGR
       have q0 : Y5b.cell? ⟨L6, 1, none⟩ = some (.slice va1 m vc1) := (B6.out.cell 1).trans rfl
       have q1 : Y5b.cell? ⟨L8, 0, none⟩ = some (.int .i64 p.dst) := (B8.out.cell 0).trans rfl
       have q2 : Y5b.cell? ⟨L8, 1, none⟩ = some (.slice aa al ac) := (B8.out.cell 1).trans rfl
       have q3 : Y5b.cell? ⟨L8, 2, none⟩ = some (.slice fa fl fc) := (B8.out.cell 2).trans rfl
       refine hK.out _ _ ?bh5 (fun hHeld => ?_)
       case bh5 => exact ⟨q1, q2, q3⟩
       clear hK K
       try simp only [Act.put, sA, sB, sC]
       refine tp 13 50 rfl hHeld ?_
       refine t1 14 fun K hK => ?_
       clear hHeld
       have f1 := B6.out.frozen 1
       go_simp
       clear f1
       show K _ _
       clear q0 q1 q2 q3
       have k4 : Keeps Y5b (Y5b.setCell ⟨L6, 1, none⟩ (.slice ua (m + 1) uc)) [L6] := (Keeps.refl Y5b [L6]).setCell (.inl (by simp)) _
       have T3b := tk_set (T := 3) (i := 1) (u := (.slice ua (m + 1) uc)) B6.out (by decide)
       have T95b := tk_set (T := 95) (i := 1) (u := (.slice ua (m + 1) uc)) B6.out (by decide)
       have B61 := B6.out.set_ 1 (.slice ua (m + 1) uc)
       replace B5 := kept (B5.out.keep k4 (by have h9 := HL.out.2.2; simp; exact h9))
       replace B8 := kept (B8.out.keep k4 (by simp; exact blk_neT B8.out B6.out (by decide)))
       have HPJ := kept (HPI.out.snoc (q := ⟨p.dst, (.slice na al nc, p.args.2), (.slice ma fl mc, p.froms.2)⟩) (T3.out.trans T3b) (by have h9 := own_tk HOW.out T95b; rw [HQL.out]; simpa [PhiM.cells] using h9) ⟨by have h9 := own_tk OA.out T3b; rw [HAL.out]; exact h9, by have h9 := own_tk OF.out T3b; rw [HFL.out]; exact h9⟩ (by rw [HQL.out, HPN.out]; exact hlm) (by rw [HQL.out, HP.out]; exact ⟨rfl, rfl, rfl⟩))
       replace HK := kept (show Keeps Wb (Y5b.setCell ⟨L6, 1, none⟩ (.slice ua (m + 1) uc)) [] from HK.out.setCell (.inr HL.out.2.1) _)
       clear k4 T3b T95b T3 OA OF HOW B6 HPI
       have B6 := kept B61
       clear B61
       generalize Y5b.setCell ⟨L6, 1, none⟩ (.slice ua (m + 1) uc) = Y6b at *
       have q1 : Y6b.cell? ⟨L8, 0, none⟩ = some (.int .i64 p.dst) := (B8.out.cell 0).trans rfl
       have q2 : Y6b.cell? ⟨L8, 1, none⟩ = some (.slice aa al ac) := (B8.out.cell 1).trans rfl
       have q3 : Y6b.cell? ⟨L8, 2, none⟩ = some (.slice fa fl fc) := (B8.out.cell 2).trans rfl
       refine hK.out _ _ ?bh6 (fun hHeld => ?_)
       case bh6 => exact ⟨q1, q2, q3⟩
       clear hK K
       try simp only [Act.put, sA, sB, sC]
       refine wpAnyH_done (by kernel_rfl) ?_ _
       clear hHeld
       have hpb : pn ≤ 100000 := by have h9 := HBP.out.1; have h8 := HPN.out; omega
       go_wp2
       go_roundw
       case rel => exact ⟨m + 1, .slice ua (m + 1) uc, _, by omega, by rw [List.length_append, HQL.out]; rfl, by go_num, B5.out, B6.out, HPJ.out, HK.out⟩
       case measure => simp [intOf]; omega
      refine t3 (fun K hK => ?_) ?_
      ·clear hHeld
       go_simp
       (with_reducible refine (CA.out _ (IntsAt.keep' HPA.out.1 (TB.out.and_then HK.out))).mono ?_)
       rintro e Y7b ⟨⟨vv, rfl, hv⟩, k3⟩
       have HSX := kept HK.out.size
       obtain ⟨na, nc, rfl, -, -⟩ := own_form hv
       have OA0 := kept (own_low hv HSX.out)
       clear hv HSX
       show K _ _
       clear q0 q1 q2 q3
       replace B5 := kept (B5.out.keep k3 (by simp))
       replace B6 := kept (B6.out.keep k3 (by simp))
       replace B8 := kept (B8.out.keep k3 (by simp))
       replace HPI := kept (HPI.out.keep k3)
       replace HK := kept (HK.out.and_then k3)
       try replace OA := kept (own_keep OA.out k3 (by simp))
       try replace OF := kept (own_keep OF.out k3 (by simp))
       try replace B9 := kept (B9.out.keep k3 (by simp))
       clear k3
       have OA := OA0
       clear OA0
       have q0 : Y7b.cell? ⟨L6, 1, none⟩ = some (.slice va1 m vc1) := (B6.out.cell 1).trans rfl
       have q1 : Y7b.cell? ⟨L8, 0, none⟩ = some (.int .i64 p.dst) := (B8.out.cell 0).trans rfl
       have q2 : Y7b.cell? ⟨L8, 1, none⟩ = some (.slice aa al ac) := (B8.out.cell 1).trans rfl
       have q3 : Y7b.cell? ⟨L8, 2, none⟩ = some (.slice fa fl fc) := (B8.out.cell 2).trans rfl
       refine hK.out _ _ ?bh7 (fun hHeld => ?_)
       case bh7 => exact ⟨q1, q2, q3⟩
       clear hK K
       try simp only [Act.put, sA, sB, sC]
       refine t2 [1, 9] ?_
       refine t3 (fun K hK => ?_) ?_
       ·clear hHeld
        go_simp
        show K _ _
        refine hK.out _ _ ?bh8 (fun hHeld => ?_)
        case bh8 => exact ⟨q1, q2, q3⟩
        clear hK K
        try simp only [Act.put, sA, sB, sC]
        refine t1 9 fun K hK => ?_
        clear hHeld
        go_simp
        (with_reducible refine (CF.out _ (IntsAt.keep' HPA.out.2 (TB.out.and_then HK.out))).mono ?_)
        rintro e Y9b ⟨⟨vv, rfl, hv⟩, k3⟩
        have HSX := kept HK.out.size
        obtain ⟨ma, mc, rfl, -, -⟩ := own_form hv
        have OF0 := kept (own_low hv HSX.out)
        clear hv HSX
        show K _ _
        clear q0 q1 q2 q3
        replace B5 := kept (B5.out.keep k3 (by simp))
        replace B6 := kept (B6.out.keep k3 (by simp))
        replace B8 := kept (B8.out.keep k3 (by simp))
        replace HPI := kept (HPI.out.keep k3)
        replace HK := kept (HK.out.and_then k3)
        try replace OA := kept (own_keep OA.out k3 (by simp))
        try replace OF := kept (own_keep OF.out k3 (by simp))
        try replace B9 := kept (B9.out.keep k3 (by simp))
        clear k3
        have OF := OF0
        clear OF0
        have q0 : Y9b.cell? ⟨L6, 1, none⟩ = some (.slice va1 m vc1) := (B6.out.cell 1).trans rfl
        have q1 : Y9b.cell? ⟨L8, 0, none⟩ = some (.int .i64 p.dst) := (B8.out.cell 0).trans rfl
        have q2 : Y9b.cell? ⟨L8, 1, none⟩ = some (.slice aa al ac) := (B8.out.cell 1).trans rfl
        have q3 : Y9b.cell? ⟨L8, 2, none⟩ = some (.slice fa fl fc) := (B8.out.cell 2).trans rfl
        refine hK.out _ _ ?bh9 (fun hHeld => ?_)
        case bh9 => exact ⟨q1, q2, q3⟩
        clear hK K
        try simp only [Act.put, sA, sB, sC]
        refine tp 10 47 rfl hHeld ?_
        refine t1 11 fun K hK => ?_
        clear hHeld
        go_simp
        have k3 : Keeps Y9b (Y9b.alloc (.cells #[.int .i64 p.dst, .slice na al nc, .slice ma fl mc] 95)) [] := (Keeps.refl _ []).alloc _
        have B90 := kept (Blk.new Y9b 95 #[.int .i64 p.dst, .slice na al nc, .slice ma fl mc])
        show K _ _
        clear q0 q1 q2 q3
        replace B5 := kept (B5.out.keep k3 (by simp))
        replace B6 := kept (B6.out.keep k3 (by simp))
        replace B8 := kept (B8.out.keep k3 (by simp))
        replace HPI := kept (HPI.out.keep k3)
        replace HK := kept (HK.out.and_then k3)
        try replace OA := kept (own_keep OA.out k3 (by simp))
        try replace OF := kept (own_keep OF.out k3 (by simp))
        try replace B9 := kept (B9.out.keep k3 (by simp))
        clear k3
        have B9 := B90
        clear B90
        generalize Y9b.alloc (.cells #[.int .i64 p.dst, .slice na al nc, .slice ma fl mc] 95) = Y10b at *
        generalize Y9b.heap.size = g9 at *
        have q0 : Y10b.cell? ⟨L6, 1, none⟩ = some (.slice va1 m vc1) := (B6.out.cell 1).trans rfl
        have q1 : Y10b.cell? ⟨L8, 0, none⟩ = some (.int .i64 p.dst) := (B8.out.cell 0).trans rfl
        have q2 : Y10b.cell? ⟨L8, 1, none⟩ = some (.slice aa al ac) := (B8.out.cell 1).trans rfl
        have q3 : Y10b.cell? ⟨L8, 2, none⟩ = some (.slice fa fl fc) := (B8.out.cell 2).trans rfl
        refine hK.out _ _ ?bh10 (fun hHeld => ?_)
        case bh10 => exact ⟨q1, q2, q3⟩
        clear hK K
        try simp only [Act.put, sA, sB, sC]
        refine t1 12 fun K hK => ?_
        clear hHeld
        refine step_row rfl (.tmp 38) (.tmp 48) 31 rfl Wb.heap.size 95 i95 (.agg #[.int .i64 0, .slice none 0 0, .slice none 0 0]) 3 56 Tryz.underlying31 hi95 hz95 hs95 hb95 rfl (by decide) (.slice va1 m vc1) m (qs.map PhiM.cells).flatten rfl (by have h9 := HPI.out.row; rw [HQL.out] at h9; exact h9) (.slice (some ⟨g9, 0, none⟩) 1 1) [[.int .i64 p.dst, .slice na al nc, .slice ma fl mc]] rfl (row_single B9.out) (by simp) (by simp [Value.oneCell']) (by have h9 := HBP.out.1; simp; unfold maxLen; omega) (by have h9 := HBP.out.1; simp; omega) HK.out.size ?_
        intro v' Y11b hown hgrow
        obtain ⟨ua, uc, rfl, -, -⟩ := own_form hown
        have HOW := kept hown
        have HGR := kept hgrow
        clear hown hgrow
        show K _ _
        clear q0 q1 q2 q3
        have HRW := kept (show World.ownsRow _ Wb.heap.size 95 3 (.slice va1 m vc1) m (qs.map PhiM.cells).flatten by have h9 := HPI.out.row; rw [HQL.out] at h9; exact h9)
        have T3 := kept (tk_grown (T := 3) HRW.out (by decide) HGR.out)
        replace B5 := kept (blk_grown0 B5.out HRW.out (by decide) HGR.out)
        replace B6 := kept (blk_grown0 B6.out HRW.out (by decide) HGR.out)
        replace OA := kept (own_tk OA.out T3.out)
        replace OF := kept (own_tk OF.out T3.out)
        replace B8 := kept (B8.out.keep ((Keeps.refl _ (Value.slice va1 m vc1).ownBlock.toList).grown HGR.out (fun z hz => .inl (by rw [hz]; simp))) (fun hm => by rw [Option.mem_toList] at hm; exact HN8.out _ hm rfl))
        replace HK := kept (HK.out.grown HGR.out (fun z hz => .inr (own_lt HRW.out hz).2))
        clear B9 HRW HGR
        have q0 : Y11b.cell? ⟨L6, 1, none⟩ = some (.slice va1 m vc1) := (B6.out.cell 1).trans rfl
        have q1 : Y11b.cell? ⟨L8, 0, none⟩ = some (.int .i64 p.dst) := (B8.out.cell 0).trans rfl
        have q2 : Y11b.cell? ⟨L8, 1, none⟩ = some (.slice aa al ac) := (B8.out.cell 1).trans rfl
        have q3 : Y11b.cell? ⟨L8, 2, none⟩ = some (.slice fa fl fc) := (B8.out.cell 2).trans rfl
        refine hK.out _ _ ?bh11 (fun hHeld => ?_)
        case bh11 => exact ⟨q1, q2, q3⟩
        clear hK K
        try simp only [Act.put, sA, sB, sC]
        refine tp 13 50 rfl hHeld ?_
        refine t1 14 fun K hK => ?_
        clear hHeld
        have f1 := B6.out.frozen 1
        go_simp
        clear f1
        show K _ _
        clear q0 q1 q2 q3
        have k4 : Keeps Y11b (Y11b.setCell ⟨L6, 1, none⟩ (.slice ua (m + 1) uc)) [L6] := (Keeps.refl Y11b [L6]).setCell (.inl (by simp)) _
        have T3b := tk_set (T := 3) (i := 1) (u := (.slice ua (m + 1) uc)) B6.out (by decide)
        have T95b := tk_set (T := 95) (i := 1) (u := (.slice ua (m + 1) uc)) B6.out (by decide)
        have B61 := B6.out.set_ 1 (.slice ua (m + 1) uc)
        replace B5 := kept (B5.out.keep k4 (by have h9 := HL.out.2.2; simp; exact h9))
        replace B8 := kept (B8.out.keep k4 (by simp; exact blk_neT B8.out B6.out (by decide)))
        have HPJ := kept (HPI.out.snoc (q := ⟨p.dst, (.slice na al nc, p.args.2), (.slice ma fl mc, p.froms.2)⟩) (T3.out.trans T3b) (by have h9 := own_tk HOW.out T95b; rw [HQL.out]; simpa [PhiM.cells] using h9) ⟨by have h9 := own_tk OA.out T3b; rw [HAL.out]; exact h9, by have h9 := own_tk OF.out T3b; rw [HFL.out]; exact h9⟩ (by rw [HQL.out, HPN.out]; exact hlm) (by rw [HQL.out, HP.out]; exact ⟨rfl, rfl, rfl⟩))
        replace HK := kept (show Keeps Wb (Y11b.setCell ⟨L6, 1, none⟩ (.slice ua (m + 1) uc)) [] from HK.out.setCell (.inr HL.out.2.1) _)
        clear k4 T3b T95b T3 OA OF HOW B6 HPI
        have B6 := kept B61
        clear B61
        generalize Y11b.setCell ⟨L6, 1, none⟩ (.slice ua (m + 1) uc) = Y12b at *
        have q1 : Y12b.cell? ⟨L8, 0, none⟩ = some (.int .i64 p.dst) := (B8.out.cell 0).trans rfl
        have q2 : Y12b.cell? ⟨L8, 1, none⟩ = some (.slice aa al ac) := (B8.out.cell 1).trans rfl
        have q3 : Y12b.cell? ⟨L8, 2, none⟩ = some (.slice fa fl fc) := (B8.out.cell 2).trans rfl
        refine hK.out _ _ ?bh12 (fun hHeld => ?_)
        case bh12 => exact ⟨q1, q2, q3⟩
        clear hK K
        try simp only [Act.put, sA, sB, sC]
        refine wpAnyH_done (by kernel_rfl) ?_ _
        clear hHeld
        have hpb : pn ≤ 100000 := by have h9 := HBP.out.1; have h8 := HPN.out; omega
        go_wp2
        go_roundw
        case rel => exact ⟨m + 1, .slice ua (m + 1) uc, _, by omega, by rw [List.length_append, HQL.out]; rfl, by go_num, B5.out, B6.out, HPJ.out, HK.out⟩
        case measure => simp [intOf]; omega
       refine t3 (fun K hK => ?_) ?_
       ·clear hHeld
        go_simp
        (with_reducible refine (CF.out _ (IntsAt.keep' HPA.out.2 (TB.out.and_then HK.out))).mono ?_)
        rintro e Y13b ⟨⟨vv, rfl, hv⟩, k3⟩
        have HSX := kept HK.out.size
        obtain ⟨ma, mc, rfl, -, -⟩ := own_form hv
        have OF0 := kept (own_low hv HSX.out)
        clear hv HSX
        show K _ _
        clear q0 q1 q2 q3
        replace B5 := kept (B5.out.keep k3 (by simp))
        replace B6 := kept (B6.out.keep k3 (by simp))
        replace B8 := kept (B8.out.keep k3 (by simp))
        replace HPI := kept (HPI.out.keep k3)
        replace HK := kept (HK.out.and_then k3)
        try replace OA := kept (own_keep OA.out k3 (by simp))
        try replace OF := kept (own_keep OF.out k3 (by simp))
        try replace B9 := kept (B9.out.keep k3 (by simp))
        clear k3
        have OF := OF0
        clear OF0
        have q0 : Y13b.cell? ⟨L6, 1, none⟩ = some (.slice va1 m vc1) := (B6.out.cell 1).trans rfl
        have q1 : Y13b.cell? ⟨L8, 0, none⟩ = some (.int .i64 p.dst) := (B8.out.cell 0).trans rfl
        have q2 : Y13b.cell? ⟨L8, 1, none⟩ = some (.slice aa al ac) := (B8.out.cell 1).trans rfl
        have q3 : Y13b.cell? ⟨L8, 2, none⟩ = some (.slice fa fl fc) := (B8.out.cell 2).trans rfl
        refine hK.out _ _ ?bh13 (fun hHeld => ?_)
        case bh13 => exact ⟨q1, q2, q3⟩
        clear hK K
        try simp only [Act.put, sA, sB, sC]
        refine tp 10 47 rfl hHeld ?_
        refine t2 [1, 11] ?_
        refine t3 (fun K hK => ?_) ?_
        ·clear hHeld
         go_simp
         show K _ _
         refine hK.out _ _ ?bh14 (fun hHeld => ?_)
         case bh14 => exact ⟨q1, q2, q3⟩
         clear hK K
         try simp only [Act.put, sA, sB, sC]
         refine t1 11 fun K hK => ?_
         clear hHeld
         go_simp
         have k3 : Keeps Y13b (Y13b.alloc (.cells #[.int .i64 p.dst, .slice na al nc, .slice ma fl mc] 95)) [] := (Keeps.refl _ []).alloc _
         have B90 := kept (Blk.new Y13b 95 #[.int .i64 p.dst, .slice na al nc, .slice ma fl mc])
         show K _ _
         clear q0 q1 q2 q3
         replace B5 := kept (B5.out.keep k3 (by simp))
         replace B6 := kept (B6.out.keep k3 (by simp))
         replace B8 := kept (B8.out.keep k3 (by simp))
         replace HPI := kept (HPI.out.keep k3)
         replace HK := kept (HK.out.and_then k3)
         try replace OA := kept (own_keep OA.out k3 (by simp))
         try replace OF := kept (own_keep OF.out k3 (by simp))
         try replace B9 := kept (B9.out.keep k3 (by simp))
         clear k3
         have B9 := B90
         clear B90
         generalize Y13b.alloc (.cells #[.int .i64 p.dst, .slice na al nc, .slice ma fl mc] 95) = Y15b at *
         generalize Y13b.heap.size = g9 at *
         have q0 : Y15b.cell? ⟨L6, 1, none⟩ = some (.slice va1 m vc1) := (B6.out.cell 1).trans rfl
         have q1 : Y15b.cell? ⟨L8, 0, none⟩ = some (.int .i64 p.dst) := (B8.out.cell 0).trans rfl
         have q2 : Y15b.cell? ⟨L8, 1, none⟩ = some (.slice aa al ac) := (B8.out.cell 1).trans rfl
         have q3 : Y15b.cell? ⟨L8, 2, none⟩ = some (.slice fa fl fc) := (B8.out.cell 2).trans rfl
         refine hK.out _ _ ?bh15 (fun hHeld => ?_)
         case bh15 => exact ⟨q1, q2, q3⟩
         clear hK K
         try simp only [Act.put, sA, sB, sC]
         refine t1 12 fun K hK => ?_
         clear hHeld
         refine step_row rfl (.tmp 38) (.tmp 48) 31 rfl Wb.heap.size 95 i95 (.agg #[.int .i64 0, .slice none 0 0, .slice none 0 0]) 3 56 Tryz.underlying31 hi95 hz95 hs95 hb95 rfl (by decide) (.slice va1 m vc1) m (qs.map PhiM.cells).flatten rfl (by have h9 := HPI.out.row; rw [HQL.out] at h9; exact h9) (.slice (some ⟨g9, 0, none⟩) 1 1) [[.int .i64 p.dst, .slice na al nc, .slice ma fl mc]] rfl (row_single B9.out) (by simp) (by simp [Value.oneCell']) (by have h9 := HBP.out.1; simp; unfold maxLen; omega) (by have h9 := HBP.out.1; simp; omega) HK.out.size ?_
         intro v' Y16b hown hgrow
         obtain ⟨ua, uc, rfl, -, -⟩ := own_form hown
         have HOW := kept hown
         have HGR := kept hgrow
         clear hown hgrow
         show K _ _
         clear q0 q1 q2 q3
         have HRW := kept (show World.ownsRow _ Wb.heap.size 95 3 (.slice va1 m vc1) m (qs.map PhiM.cells).flatten by have h9 := HPI.out.row; rw [HQL.out] at h9; exact h9)
         have T3 := kept (tk_grown (T := 3) HRW.out (by decide) HGR.out)
         replace B5 := kept (blk_grown0 B5.out HRW.out (by decide) HGR.out)
         replace B6 := kept (blk_grown0 B6.out HRW.out (by decide) HGR.out)
         replace OA := kept (own_tk OA.out T3.out)
         replace OF := kept (own_tk OF.out T3.out)
         replace B8 := kept (B8.out.keep ((Keeps.refl _ (Value.slice va1 m vc1).ownBlock.toList).grown HGR.out (fun z hz => .inl (by rw [hz]; simp))) (fun hm => by rw [Option.mem_toList] at hm; exact HN8.out _ hm rfl))
         replace HK := kept (HK.out.grown HGR.out (fun z hz => .inr (own_lt HRW.out hz).2))
         clear B9 HRW HGR
         have q0 : Y16b.cell? ⟨L6, 1, none⟩ = some (.slice va1 m vc1) := (B6.out.cell 1).trans rfl
         have q1 : Y16b.cell? ⟨L8, 0, none⟩ = some (.int .i64 p.dst) := (B8.out.cell 0).trans rfl
         have q2 : Y16b.cell? ⟨L8, 1, none⟩ = some (.slice aa al ac) := (B8.out.cell 1).trans rfl
         have q3 : Y16b.cell? ⟨L8, 2, none⟩ = some (.slice fa fl fc) := (B8.out.cell 2).trans rfl
         refine hK.out _ _ ?bh16 (fun hHeld => ?_)
         case bh16 => exact ⟨q1, q2, q3⟩
         clear hK K
         try simp only [Act.put, sA, sB, sC]
         refine tp 13 50 rfl hHeld ?_
         refine t1 14 fun K hK => ?_
         clear hHeld
         have f1 := B6.out.frozen 1
         go_simp
         clear f1
         show K _ _
         clear q0 q1 q2 q3
         have k4 : Keeps Y16b (Y16b.setCell ⟨L6, 1, none⟩ (.slice ua (m + 1) uc)) [L6] := (Keeps.refl Y16b [L6]).setCell (.inl (by simp)) _
         have T3b := tk_set (T := 3) (i := 1) (u := (.slice ua (m + 1) uc)) B6.out (by decide)
         have T95b := tk_set (T := 95) (i := 1) (u := (.slice ua (m + 1) uc)) B6.out (by decide)
         have B61 := B6.out.set_ 1 (.slice ua (m + 1) uc)
         replace B5 := kept (B5.out.keep k4 (by have h9 := HL.out.2.2; simp; exact h9))
         replace B8 := kept (B8.out.keep k4 (by simp; exact blk_neT B8.out B6.out (by decide)))
         have HPJ := kept (HPI.out.snoc (q := ⟨p.dst, (.slice na al nc, p.args.2), (.slice ma fl mc, p.froms.2)⟩) (T3.out.trans T3b) (by have h9 := own_tk HOW.out T95b; rw [HQL.out]; simpa [PhiM.cells] using h9) ⟨by have h9 := own_tk OA.out T3b; rw [HAL.out]; exact h9, by have h9 := own_tk OF.out T3b; rw [HFL.out]; exact h9⟩ (by rw [HQL.out, HPN.out]; exact hlm) (by rw [HQL.out, HP.out]; exact ⟨rfl, rfl, rfl⟩))
         replace HK := kept (show Keeps Wb (Y16b.setCell ⟨L6, 1, none⟩ (.slice ua (m + 1) uc)) [] from HK.out.setCell (.inr HL.out.2.1) _)
         clear k4 T3b T95b T3 OA OF HOW B6 HPI
         have B6 := kept B61
         clear B61
         generalize Y16b.setCell ⟨L6, 1, none⟩ (.slice ua (m + 1) uc) = Y17b at *
         have q1 : Y17b.cell? ⟨L8, 0, none⟩ = some (.int .i64 p.dst) := (B8.out.cell 0).trans rfl
         have q2 : Y17b.cell? ⟨L8, 1, none⟩ = some (.slice aa al ac) := (B8.out.cell 1).trans rfl
         have q3 : Y17b.cell? ⟨L8, 2, none⟩ = some (.slice fa fl fc) := (B8.out.cell 2).trans rfl
         refine hK.out _ _ ?bh17 (fun hHeld => ?_)
         case bh17 => exact ⟨q1, q2, q3⟩
         clear hK K
         try simp only [Act.put, sA, sB, sC]
         refine wpAnyH_done (by kernel_rfl) ?_ _
         clear hHeld
         have hpb : pn ≤ 100000 := by have h9 := HBP.out.1; have h8 := HPN.out; omega
         go_wp2
         go_roundw
         case rel => exact ⟨m + 1, .slice ua (m + 1) uc, _, by omega, by rw [List.length_append, HQL.out]; rfl, by go_num, B5.out, B6.out, HPJ.out, HK.out⟩
         case measure => simp [intOf]; omega
        refine t3 (fun K hK => ?_) ?_
        ·clear hHeld
         go_simp
         have k3 : Keeps Y13b (Y13b.alloc (.cells #[.int .i64 p.dst, .slice na al nc, .slice ma fl mc] 95)) [] := (Keeps.refl _ []).alloc _
         have B90 := kept (Blk.new Y13b 95 #[.int .i64 p.dst, .slice na al nc, .slice ma fl mc])
         show K _ _
         clear q0 q1 q2 q3
         replace B5 := kept (B5.out.keep k3 (by simp))
         replace B6 := kept (B6.out.keep k3 (by simp))
         replace B8 := kept (B8.out.keep k3 (by simp))
         replace HPI := kept (HPI.out.keep k3)
         replace HK := kept (HK.out.and_then k3)
         try replace OA := kept (own_keep OA.out k3 (by simp))
         try replace OF := kept (own_keep OF.out k3 (by simp))
         try replace B9 := kept (B9.out.keep k3 (by simp))
         clear k3
         have B9 := B90
         clear B90
         generalize Y13b.alloc (.cells #[.int .i64 p.dst, .slice na al nc, .slice ma fl mc] 95) = Y18b at *
         generalize Y13b.heap.size = g9 at *
         have q0 : Y18b.cell? ⟨L6, 1, none⟩ = some (.slice va1 m vc1) := (B6.out.cell 1).trans rfl
         have q1 : Y18b.cell? ⟨L8, 0, none⟩ = some (.int .i64 p.dst) := (B8.out.cell 0).trans rfl
         have q2 : Y18b.cell? ⟨L8, 1, none⟩ = some (.slice aa al ac) := (B8.out.cell 1).trans rfl
         have q3 : Y18b.cell? ⟨L8, 2, none⟩ = some (.slice fa fl fc) := (B8.out.cell 2).trans rfl
         refine hK.out _ _ ?bh18 (fun hHeld => ?_)
         case bh18 => exact ⟨q1, q2, q3⟩
         clear hK K
         try simp only [Act.put, sA, sB, sC]
         refine t1 1 fun K hK => ?_
         clear hHeld
         go_simp
         show K _ _
         refine hK.out _ _ ?bh19 (fun hHeld => ?_)
         case bh19 => exact ⟨q1, q2, q3⟩
         clear hK K
         try simp only [Act.put, sA, sB, sC]
         refine t1 12 fun K hK => ?_
         clear hHeld
         refine step_row rfl (.tmp 38) (.tmp 48) 31 rfl Wb.heap.size 95 i95 (.agg #[.int .i64 0, .slice none 0 0, .slice none 0 0]) 3 56 Tryz.underlying31 hi95 hz95 hs95 hb95 rfl (by decide) (.slice va1 m vc1) m (qs.map PhiM.cells).flatten rfl (by have h9 := HPI.out.row; rw [HQL.out] at h9; exact h9) (.slice (some ⟨g9, 0, none⟩) 1 1) [[.int .i64 p.dst, .slice na al nc, .slice ma fl mc]] rfl (row_single B9.out) (by simp) (by simp [Value.oneCell']) (by have h9 := HBP.out.1; simp; unfold maxLen; omega) (by have h9 := HBP.out.1; simp; omega) HK.out.size ?_
         intro v' Y20b hown hgrow
         obtain ⟨ua, uc, rfl, -, -⟩ := own_form hown
         have HOW := kept hown
         have HGR := kept hgrow
         clear hown hgrow
         show K _ _
         clear q0 q1 q2 q3
         have HRW := kept (show World.ownsRow _ Wb.heap.size 95 3 (.slice va1 m vc1) m (qs.map PhiM.cells).flatten by have h9 := HPI.out.row; rw [HQL.out] at h9; exact h9)
         have T3 := kept (tk_grown (T := 3) HRW.out (by decide) HGR.out)
         replace B5 := kept (blk_grown0 B5.out HRW.out (by decide) HGR.out)
         replace B6 := kept (blk_grown0 B6.out HRW.out (by decide) HGR.out)
         replace OA := kept (own_tk OA.out T3.out)
         replace OF := kept (own_tk OF.out T3.out)
         replace B8 := kept (B8.out.keep ((Keeps.refl _ (Value.slice va1 m vc1).ownBlock.toList).grown HGR.out (fun z hz => .inl (by rw [hz]; simp))) (fun hm => by rw [Option.mem_toList] at hm; exact HN8.out _ hm rfl))
         replace HK := kept (HK.out.grown HGR.out (fun z hz => .inr (own_lt HRW.out hz).2))
         clear B9 HRW HGR
         have q0 : Y20b.cell? ⟨L6, 1, none⟩ = some (.slice va1 m vc1) := (B6.out.cell 1).trans rfl
         have q1 : Y20b.cell? ⟨L8, 0, none⟩ = some (.int .i64 p.dst) := (B8.out.cell 0).trans rfl
         have q2 : Y20b.cell? ⟨L8, 1, none⟩ = some (.slice aa al ac) := (B8.out.cell 1).trans rfl
         have q3 : Y20b.cell? ⟨L8, 2, none⟩ = some (.slice fa fl fc) := (B8.out.cell 2).trans rfl
         refine hK.out _ _ ?bh20 (fun hHeld => ?_)
         case bh20 => exact ⟨q1, q2, q3⟩
         clear hK K
         try simp only [Act.put, sA, sB, sC]
         refine tp 13 50 rfl hHeld ?_
         refine t1 14 fun K hK => ?_
         clear hHeld
         have f1 := B6.out.frozen 1
         go_simp
         clear f1
         show K _ _
         clear q0 q1 q2 q3
         have k4 : Keeps Y20b (Y20b.setCell ⟨L6, 1, none⟩ (.slice ua (m + 1) uc)) [L6] := (Keeps.refl Y20b [L6]).setCell (.inl (by simp)) _
         have T3b := tk_set (T := 3) (i := 1) (u := (.slice ua (m + 1) uc)) B6.out (by decide)
         have T95b := tk_set (T := 95) (i := 1) (u := (.slice ua (m + 1) uc)) B6.out (by decide)
         have B61 := B6.out.set_ 1 (.slice ua (m + 1) uc)
         replace B5 := kept (B5.out.keep k4 (by have h9 := HL.out.2.2; simp; exact h9))
         replace B8 := kept (B8.out.keep k4 (by simp; exact blk_neT B8.out B6.out (by decide)))
         have HPJ := kept (HPI.out.snoc (q := ⟨p.dst, (.slice na al nc, p.args.2), (.slice ma fl mc, p.froms.2)⟩) (T3.out.trans T3b) (by have h9 := own_tk HOW.out T95b; rw [HQL.out]; simpa [PhiM.cells] using h9) ⟨by have h9 := own_tk OA.out T3b; rw [HAL.out]; exact h9, by have h9 := own_tk OF.out T3b; rw [HFL.out]; exact h9⟩ (by rw [HQL.out, HPN.out]; exact hlm) (by rw [HQL.out, HP.out]; exact ⟨rfl, rfl, rfl⟩))
         replace HK := kept (show Keeps Wb (Y20b.setCell ⟨L6, 1, none⟩ (.slice ua (m + 1) uc)) [] from HK.out.setCell (.inr HL.out.2.1) _)
         clear k4 T3b T95b T3 OA OF HOW B6 HPI
         have B6 := kept B61
         clear B61
         generalize Y20b.setCell ⟨L6, 1, none⟩ (.slice ua (m + 1) uc) = Y21b at *
         have q1 : Y21b.cell? ⟨L8, 0, none⟩ = some (.int .i64 p.dst) := (B8.out.cell 0).trans rfl
         have q2 : Y21b.cell? ⟨L8, 1, none⟩ = some (.slice aa al ac) := (B8.out.cell 1).trans rfl
         have q3 : Y21b.cell? ⟨L8, 2, none⟩ = some (.slice fa fl fc) := (B8.out.cell 2).trans rfl
         refine hK.out _ _ ?bh21 (fun hHeld => ?_)
         case bh21 => exact ⟨q1, q2, q3⟩
         clear hK K
         try simp only [Act.put, sA, sB, sC]
         refine wpAnyH_done (by kernel_rfl) ?_ _
         clear hHeld
         have hpb : pn ≤ 100000 := by have h9 := HBP.out.1; have h8 := HPN.out; omega
         go_wp2
         go_roundw
         case rel => exact ⟨m + 1, .slice ua (m + 1) uc, _, by omega, by rw [List.length_append, HQL.out]; rfl, by go_num, B5.out, B6.out, HPJ.out, HK.out⟩
         case measure => simp [intOf]; omega
        exact t4
       exact t4
      exact t4
     ·have hlmz : ¬ (m : Int) < (pn : Int) := by omega
      obtain rfl : pn = m := by omega
      have HPJ := HPI
      clear HPI HPC
      have HIN := kept (show InsI Wb.heap.size wr (.slice none 0 0) y.insts.2 [] from ⟨World.ownsRow_nil _ _ _ _, fun p hp => absurd hp List.not_mem_nil, Nat.zero_le _, fun k hk => absurd hk (Nat.not_lt_zero _)⟩)
      obtain ⟨g0, g1, g2, g3, g4, g5, g6⟩ := B5.out.c7
      simp at g0 g1 g2 g3 g4 g5 g6
      clear g0 g1 g3 g4 g5 g6
      go_wp2
      clear g2
      go_loopw [55] (fun i' wx => ∃ (j : Nat) (inv : Value) (xs : List InstM), j ≤ qn ∧ xs.length = j ∧ i' = .int .i64 j ∧ Blk wx L5 38 #[.string y.name, .slice pa pn pc, .slice qa qn qc, .int .i64 y.kind, .int .i64 y.var, .int .i64 y.to0, .int .i64 y.to1] ∧ Blk wx L6 38 #[.string y.name, .slice va1 pn vc1, inv, .int .i64 y.kind, .int .i64 y.var, .int .i64 y.to0, .int .i64 y.to1] ∧ PhiI Wb.heap.size wx (.slice va1 pn vc1) y qs ∧ InsI Wb.heap.size wx inv y.insts.2 xs ∧ Keeps Wb wx []) (fun i' _ => qn - (intOf i').toNat)
      case atStart => exact ⟨0, _, [], Nat.zero_le _, rfl, rfl, B5.out, B6.out, by have h9 := HPJ.out; rw [HQL.out] at h9; exact h9, HIN.out, HK.out⟩
      case round =>
       obtain ⟨j, inv, xs, hj, hxl, rfl, hB5, hB6, hPJ, hIN, hr⟩ := hrel
       clear B5 B6 HPJ HIN HK
       have B5 := kept hB5
       have B6 := kept hB6
       have HPJ := kept hPJ
       have HIN := kept hIN
       have HK := kept hr
       clear hB5 hB6 hPJ hIN hr
       have HXL := kept hxl
       clear hxl
       obtain ⟨va2, vc2, rfl, -, -⟩ := own_form HIN.out.row
       rw [HXL.out] at B6
       by_cases hlj : j < qn
       ·have hljz : (j : Int) < (qn : Int) := by omega
        have hqb : qn ≤ 100000 := by have h9 := HBI.out.1; have h8 := HQN.out; omega
        have hjp : j < y.insts.2.length := by rw [HQN.out]; exact hlj
        obtain ⟨xb, xo, e8, -, hcx⟩ := HQC.out j (by first | exact hlj | exact hjp)
        obtain rfl := e8
        have hxx := HBA.out.inst _ (bang_mem hjp)
        have hxlen := HBI.out.2 _ (bang_mem hjp)
        obtain ⟨xa, xc, ex, -, -, -⟩ := IntsAt.open_ hxx
        have HKX := kept (TB.out.and_then HK.out)
        have n0 := HKX.out.cellOf (hcx 0 _ rfl)
        have n1 := HKX.out.cellOf (hcx 1 _ rfl)
        have n2 := HKX.out.cellOf (hcx 2 _ rfl)
        have n3 := HKX.out.cellOf (hcx 3 _ rfl)
        simp only [Nat.add_zero] at n0
        rw [ex] at n2
        have CX := kept (fun W (hW : IntsAt W y.insts.2[j]!.args) => CI.out y.insts.2[j]!.args hxlen W hW)
        rw [ex] at CX
        have HXA := kept (show IntsAt w y.insts.2[j]!.args from hxx)
        clear hcx hxx ex hxlen
        obtain ⟨x, hx⟩ : ∃ x, y.insts.2[j]! = x := ⟨_, rfl⟩
        rw [hx] at n0 n1 n2 n3 CX HXA
        have HX := kept hx
        clear hx
        obtain ⟨xl, hxl⟩ : ∃ xl, x.args.2.length = xl := ⟨_, rfl⟩
        rw [hxl] at n2 CX
        have HXN := kept hxl
        clear hxl
        go_upto_region 14 with (fail)
        clear n0 n1 n2 n3
        have k8 : Keeps wr (wr.alloc (.cells #[.int .i64 x.op, .int .i64 x.dst, .slice xa xl xc, .int .i64 x.num] 43)) [] := (Keeps.refl _ []).alloc _
        have B8 := kept (Blk.new wr 43 #[.int .i64 x.op, .int .i64 x.dst, .slice xa xl xc, .int .i64 x.num])
        replace B5 := kept (B5.out.keep k8 (by simp))
        replace B6 := kept (B6.out.keep k8 (by simp))
        replace HPJ := kept (HPJ.out.keep k8)
        have HIN0 := HIN
        replace HIN := kept (HIN.out.keep k8)
        have HK0 := HK
        replace HK := kept (HK.out.and_then k8)
        clear k8
        have HN8 := kept (show (∀ z, (Value.slice va2 j vc2).ownBlock = some z → z ≠ wr.heap.size) ∧ Wb.heap.size ≤ wr.heap.size from ⟨fun z hz e => by have h8 := HIN0.out.row; rw [HXL.out] at h8; have h9 := (own_lt h8 hz).1; omega, HK0.out.size⟩)
        clear HIN0 HK0
        generalize wr.alloc (.cells #[.int .i64 x.op, .int .i64 x.dst, .slice xa xl xc, .int .i64 x.num] 43) = W2 at *
        generalize wr.heap.size = L8 at *
        obtain ⟨w0, w1, w2, w3x⟩ := B8.out.c4
        simp at w0 w1 w2 w3x
        have f2 := B8.out.frozen 2
        go_upto_region 15 with (first | (go_at_call 36; refine (CX.out _ (IntsAt.keep' HXA.out (TB.out.and_then HK.out))).mono ?_; rintro e w3 ⟨⟨vv, rfl, hv⟩, k3⟩; have HSX := kept HK.out.size; obtain ⟨na, nc, rfl, -, -⟩ := own_form hv; have OA0 := kept (own_low hv HSX.out); clear hv HSX w0 w1 w2 w3x f2; replace B5 := kept (B5.out.keep k3 (by simp)); replace B6 := kept (B6.out.keep k3 (by simp)); replace B8 := kept (B8.out.keep k3 (by simp)); replace HPJ := kept (HPJ.out.keep k3); replace HIN := kept (HIN.out.keep k3); replace HK := kept (HK.out.and_then k3); have OA := OA0; clear OA0 k3; obtain ⟨w0, w1, w2, w3x⟩ := B8.out.c4; simp at w0 w1 w2 w3x; have f2 := B8.out.frozen 2))
        clear w0 w1 w2 w3x f2
        have k4 : Keeps w3 (w3.setCell ⟨L8, 2, none⟩ (.slice na xl nc)) [L8] := (Keeps.refl w3 [L8]).setCell (.inl (by simp)) _
        have B81 := B8.out.set_ 2 (.slice na xl nc)
        have HRX := kept (show World.ownsRow w3 Wb.heap.size 43 4 (.slice va2 j vc2) j (xs.map InstM.cells).flatten by have h9 := HIN.out.row; rw [HXL.out] at h9; exact h9)
        have HRX2 := kept (own_keep HRX.out k4 (fun z hz hm => HN8.out.1 z hz (List.mem_singleton.1 hm)))
        have T3a := tk_set (T := 3) (i := 2) (u := .slice na xl nc) B8.out (by decide)
        have T95a := tk_set (T := 95) (i := 2) (u := .slice na xl nc) B8.out (by decide)
        have HIN2 := kept (show InsI Wb.heap.size _ (.slice va2 j vc2) y.insts.2 xs from ⟨by rw [HXL.out]; exact HRX2.out, fun q hq => own_tk (HIN.out.own q hq) T3a, HIN.out.le, HIN.out.same⟩)
        replace HPJ := kept (HPJ.out.tk T3a T95a)
        replace OA := kept (own_tk OA.out T3a)
        replace B5 := kept (B5.out.keep k4 (by simp; exact blk_neT B5.out B8.out (by decide)))
        replace B6 := kept (B6.out.keep k4 (by simp; exact blk_neT B6.out B8.out (by decide)))
        replace HK := kept (show Keeps Wb (w3.setCell ⟨L8, 2, none⟩ (.slice na xl nc)) [] from HK.out.setCell (.inr HN8.out.2) _)
        clear B8 HIN HRX k4 T3a T95a
        have HIN := HIN2
        have HRX := HRX2
        have B8 := kept B81
        clear HIN2 HRX2 B81
        generalize (w3.setCell ⟨L8, 2, none⟩ (.slice na xl nc)) = W3 at *
        obtain ⟨w0, w1, w2, w3x⟩ := B8.out.c4
        simp at w0 w1 w2 w3x
        have q2 : W3.cell? ⟨L6, 2, none⟩ = some (.slice va2 j vc2) := (B6.out.cell 2).trans rfl
        go_wp2_with (first | (at_builtin; go_must (refine wpList_append_row rfl (.tmp 64) (.tmp 66) 32 rfl Wb.heap.size 43 i43 (.agg #[.int .i64 0, .int .i64 0, .slice none 0 0, .int .i64 0]) 4 48 Tryz.underlying32 hi43 hz43 hs43 hb43 rfl (by decide) (.slice va2 j vc2) j (xs.map InstM.cells).flatten rfl (own_keep HRX.out ((Keeps.refl W3 []).alloc _) (by simp)) (.slice (some ⟨W3.heap.size, 0, none⟩) 1 1) [[.int .i64 x.op, .int .i64 x.dst, .slice na xl nc, .int .i64 x.num]] rfl (row_single (Blk.new W3 43 _)) (by simp) (by simp [Value.oneCell']) (by have h9 := HBI.out.1; simp; unfold maxLen; omega) (by have h9 := HBI.out.1; simp; omega) (by rw [size_alloc1]; have h9 := HK.out.size; omega) ?_); intro v1 w4 hown hgrow; obtain ⟨ua, uc, rfl, -, -⟩ := own_form hown; have HOW := kept hown; have HGR := kept hgrow; clear hown hgrow w0 w1 w2 w3x q2; have B64 := kept (blk_grown B6.out HRX.out (by decide) HGR.out); have q2 := B64.out.cell 2; simp at q2; have f6 := B64.out.frozen 2))
        clear q2 f6
        have ka := (Keeps.refl W3 []).alloc (.cells #[.int .i64 x.op, .int .i64 x.dst, .slice na xl nc, .int .i64 x.num] 43)
        have hrw := own_keep HRX.out ka (by simp)
        have TT := kept (fun (T : TypeId) (h1 : T ≠ 43) (h2 : T ≠ 38) => ((tk_keeps (T := T) ka).trans (tk_grown hrw (fun e => h1 e.symm) HGR.out)).trans (tk_set (i := 2) (u := (.slice ua (j + 1) uc)) B64.out (fun e => h2 e.symm)))
        have k9 : Keeps w4 (w4.setCell ⟨L6, 2, none⟩ (.slice ua (j + 1) uc)) [L6] := (Keeps.refl w4 [L6]).setCell (.inl (by simp)) _
        have B54 := blk_grown B5.out HRX.out (by decide) HGR.out
        go_roundw
        case rel => exact ⟨j + 1, .slice ua (j + 1) uc, xs ++ [⟨x.op, x.dst, (.slice na xl nc, x.args.2), x.num⟩], by omega, by rw [List.length_append, HXL.out]; rfl, by go_num, B54.keep k9 (by have h9 := HL.out.2.2; simp; exact h9), by have h9 := B64.out.set_ 2 (.slice ua (j + 1) uc); simpa using h9, HPJ.out.tk (TT.out 3 (by decide) (by decide)) (TT.out 95 (by decide) (by decide)), HIN.out.snoc (TT.out 3 (by decide) (by decide)) (by have h9 := own_tk HOW.out (tk_set (T := 43) (i := 2) (u := .slice ua (j + 1) uc) B64.out (by decide)); rw [HXL.out]; simpa [InstM.cells] using h9) (by have h9 := own_tk OA.out (TT.out 3 (by decide) (by decide)); rw [HXN.out]; exact h9) (by rw [HXL.out, HQN.out]; exact hlj) (by rw [HXL.out, HX.out]; exact ⟨rfl, rfl, rfl, rfl⟩), (keeps_grown HK.out HRX.out (Nat.le_refl _) HGR.out).setCell (.inr HL.out.2.1) _⟩
        case measure => simp [intOf]; omega
       ·have hljz : ¬ (j : Int) < (qn : Int) := by omega
        obtain rfl : qn = j := by omega
        clear HQC
        have HCW := kept (HWB.out.keep HK.out)
        have HRB := kept (show World.ownsRow wr W0.heap.size 38 7 (.slice ba b bc) b (zs.map BlockM.cells).flatten by have h9 := HCW.out.rows; rw [hzl] at h9; exact h9)
        have HOZ := kept (show OwnZ W0.heap.size wr (⟨y.name, (.slice va1 pn vc1, qs), (.slice va2 qn vc2, xs), y.kind, y.var, y.to0, y.to1⟩ : BlockM) from ⟨by have h9 := own_low HPJ.out.row HWB.out.k.size; exact h9, fun p hp => ⟨own_low (HPJ.out.own p hp).1 HWB.out.k.size, own_low (HPJ.out.own p hp).2 HWB.out.k.size⟩, by have h9 := own_low HIN.out.row HWB.out.k.size; rw [HXL.out] at h9; show World.ownsRow _ _ _ _ _ xs.length _; rw [HXL.out]; exact h9, fun x hx => own_low (HIN.out.own x hx) HWB.out.k.size⟩)
        have HFR := kept (show ∀ q, ((⟨y.name, (.slice va1 pn vc1, qs), (.slice va2 qn vc2, xs), y.kind, y.var, y.to0, y.to1⟩ : BlockM)).insts.1.ownBlock = some q → ∀ k, k < zs.length → zs[k]!.insts.1.ownBlock ≠ some q from fun q hq k hk e => by have h9 := (own_lt (HWB.out.own k hk).insts e).1; have h8 := HIN.out.row; rw [HXL.out] at h8; have h7 := (own_lt h8 hq).2; omega)
        have HBS := kept (show BlkS y.insts.2 y (⟨y.name, (.slice va1 pn vc1, qs), (.slice va2 qn vc2, xs), y.kind, y.var, y.to0, y.to1⟩ : BlockM) from ⟨rfl, by show qs.length = _; rw [HQL.out, HPN.out], fun k hk => HPJ.out.same k (by rw [HQL.out, ← HPN.out]; exact hk), by show xs.length = _; rw [HXL.out, HQN.out], fun k hk => HIN.out.same k (by rw [HXL.out, ← HQN.out]; exact hk), rfl, rfl, rfl, rfl⟩)
        obtain ⟨s0, s1, s2⟩ := HCW.out.box.c3
        simp at s0 s1 s2
        clear s0 s1
        obtain ⟨t0, t1, t2, t3, t4, t5, t6⟩ := B6.out.c7
        simp at t0 t1 t2 t3 t4 t5 t6
        have hzb : b ≤ 1000 := by have h9 := HCB.out.nb; omega
        go_wp2_with (first | (at_builtin; go_must (refine wpList_append_row rfl (.tmp 71) (.tmp 73) 24 rfl W0.heap.size 38 i38 (.agg #[.string ⟨#[]⟩, .slice none 0 0, .slice none 0 0, .int .i64 0, .int .i64 0, .int .i64 0, .int .i64 0]) 7 96 Tryz.underlying24 hi38 hz38 hs38 hb38 rfl (by decide) (.slice ba b bc) b (zs.map BlockM.cells).flatten rfl (own_keep HRB.out ((Keeps.refl wr []).alloc _) (by simp)) (.slice (some ⟨wr.heap.size, 0, none⟩) 1 1) [[.string y.name, .slice va1 pn vc1, .slice va2 qn vc2, .int .i64 y.kind, .int .i64 y.var, .int .i64 y.to0, .int .i64 y.to1]] rfl (row_single (Blk.new wr 38 _)) (by simp) (by simp [Value.oneCell']) (by simp; unfold maxLen; omega) (by simp; omega) (by rw [size_alloc1]; have h9 := HCW.out.k.size; omega) ?_); intro v1 w4 hown hgrow; obtain ⟨ua, uc, rfl, -, -⟩ := own_form hown; have HOW := kept hown; have HGR := kept hgrow; clear hown hgrow s2 t0 t1 t2 t3 t4 t5 t6; have B34 := kept (blk_grown HCW.out.box HRB.out (by decide) HGR.out); have s2 := B34.out.cell 2; simp at s2; have f3 := B34.out.frozen 2))
        clear s2 f3
        go_roundw
        case rel => exact ⟨b + 1, .slice ua (b + 1) uc, zs ++ [(⟨y.name, (.slice va1 pn vc1, qs), (.slice va2 qn vc2, xs), y.kind, y.var, y.to0, y.to1⟩ : BlockM)], by omega, by rw [List.length_append, hzl]; rfl, by go_num, SNO.out _ _ _ _ _ HCW.out HOZ.out HFR.out HBS.out HGR.out (by have h9 := HOW.out; rw [hzl]; simpa [BlockM.cells] using h9)⟩
        case measure => simp [intOf]; omega
   ·have hlbz : ¬ (b : Int) < (f.nb : Int) := by omega
    obtain rfl : b = f.nb := by omega
    clear l0 l1 l2
    obtain ⟨s0, s1, s2⟩ := HCI.out.box.c3
    simp at s0 s1 s2
    obtain ⟨r0, r1, r2⟩ := Br.out.c3
    simp at r0 r1 r2
    have f0 := Br.out.frozen 0
    have f1 := Br.out.frozen 1
    have f2 := Br.out.frozen 2
    go_wp2
    clear r0 r1 r2 f0 f1 f2 s0 s1 s2
    have kF : Keeps wr (((wr.setCell ⟨w.heap.size + 1, 0, none⟩ (.slice va f.nv vc)).setCell ⟨w.heap.size + 1, 1, none⟩ (.slice pa0 f.np pc0)).setCell ⟨w.heap.size + 1, 2, none⟩ (.slice ba f.nb bc)) [w.heap.size + 1] := ((((Keeps.refl wr _).setCell (.inl (by simp)) _).setCell (.inl (by simp)) _).setCell (.inl (by simp)) _)
    have BrF := ((Br.out.set_ 0 (.slice va f.nv vc)).set_ 1 (.slice pa0 f.np pc0)).set_ 2 (.slice ba f.nb bc)
    generalize (((wr.setCell ⟨w.heap.size + 1, 0, none⟩ (.slice va f.nv vc)).setCell ⟨w.heap.size + 1, 1, none⟩ (.slice pa0 f.np pc0)).setCell ⟨w.heap.size + 1, 2, none⟩ (.slice ba f.nb bc)) = Wf at *
    obtain ⟨r0, r1, r2⟩ := BrF.c3
    simp at r0 r1 r2
    have T := fun (T : TypeId) (h : T ≠ 26) => (show TyK T wr Wf from fun b cs hb => hb.keep kF (by simp; exact fun e => blk_neT hb Br.out h e))
    have HKF : Keeps w Wf [] := (TW0.out.and_then HCI.out.k).trans kF |>.mono (fun x hx => by simp at hx; subst hx; exact .inr (by omega))
    refine bodyPost_ret (v := .agg #[.slice va f.nv vc, .slice pa0 f.np pc0, .slice ba f.nb bc]) (by simp [results, Tryz.results43, go_sem, r0, r1, r2]) rfl ⟨⟨(⟨(.slice va f.nv vc, f.vars.2), (.slice pa0 f.np pc0, f.params.2), (.slice ba f.nb bc, zs)⟩ : FuncM), rfl, ?_⟩, HKF⟩
    have hb0 : w.heap.size ≤ W0.heap.size := TW0.out.size
    refine ⟨?_, ?_, ?_, fun b hb => ?_, HCI.out.apart, ⟨rfl, rfl, hzl, fun b hb => HCI.out.same b (by rw [hzl]; exact hb)⟩⟩
    ·have h9 := own_low (own_tk HCI.out.ov (T 83 (by decide))) hb0; exact h9
    ·have h9 := own_low (own_tk HCI.out.op (T 3 (by decide))) hb0; exact h9
    ·have h9 := own_low (own_tk HCI.out.rows (T 38 (by decide))) hb0; show World.ownsRow _ _ _ _ _ zs.length _; rw [hzl] at h9 ⊢; exact h9
    ·exact ((HCI.out.own b hb).tk (T 3 (by decide)) (T 43 (by decide)) (T 95 (by decide))).low hb0
end Go.Proofs.YtjllbchfojonhaaGreatDoor
