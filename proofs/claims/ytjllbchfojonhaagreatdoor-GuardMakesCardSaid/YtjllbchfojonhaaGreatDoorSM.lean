/- Two programs of the same content are the same (ref04.Same); contract. -/
import Derived.Test.YtjllbchfojonhaaGreatDoorSM0
import Derived.OwnWalk
import Derived.BigQuiet
import Derived.Deep.CutBlock
import Derived.Deep.Cut
namespace Go.Proofs.YtjllbchfojonhaaGreatDoor
open Go.RowKit Go.Shelf Go.Lib
set_option linter.unusedVariables false
set_option linter.unusedSimpArgs false

theorem IntsAt.keepS {w w' : World} {p : IntsM} (h : IntsAt w p) (k : Keeps w w' []) : IntsAt w' p := Row.keep (show Row w 1 p.1 (p.2.map intCells) from h) k
theorem phiAt_keep {w w' : World} {p : PhiM} (h : PhiAt w p) (k : Keeps w w' []) : PhiAt w' p := ⟨h.1.keepS k, h.2.keepS k⟩
set_option maxRecDepth 100000 in
set_option maxHeartbeats 200000000 in
theorem same32_any (f g : FuncM) (w : World) (hf : FuncAt w f) (hg : FuncAt w g) (hS : ProgS (fun b => f.blocks.2[b]!.insts.2) f g) : Calls Tryz.prog 32 #[f.val, g.val] w fun e w' => e = .returned (.bool true) ∧ Keeps w w' [] := by
 have HS := kept hS
 have hnv : g.nv = f.nv := by unfold FuncM.nv; rw [hS.vars]
 have hnp : g.np = f.np := by unfold FuncM.np; rw [hS.params]
 have hnb := hS.nb
 have CI := kept (fun (p q : IntsM) (h : p.2 = q.2) W (h1 : IntsAt W p) (h2 : IntsAt W q) => ints53_any p q W h1 h2 h)
 have CP := kept (fun W (h1 : FuncAt W f) (h2 : FuncAt W g) => ints53_any f.params g.params W h1.params h2.params hS.params.symm)
 have hb0 : f.nv ≤ 9223372036854775807 ∧ f.nb ≤ 9223372036854775807 := by
  obtain ⟨_, _, _, h1, h2, _⟩ := hf.vars.open_
  obtain ⟨_, _, _, h3, h4, _⟩ := hf.blocks.open_
  have h5 : f.vars.2.length = f.nv := rfl
  have h6 : f.blocks.2.length = f.nb := rfl
  unfold maxLen at h2 h4
  omega
 obtain ⟨a0, c0, a1, c1, a2, c2, e0, e1, e2, hval, h1, HF, HC0, HC1, HC2, HNV, HNP, HNB⟩ := fopen hf
 obtain ⟨d0, k0, d1, k1, d2, k2, g0, g1, g2, hvalg, h1g, HG, HD0, HD1, HD2, HMV, HMP, HMB⟩ := fopen hg
 rw [hnv, hnp, hnb] at hvalg
 rw [e1, g1, HNP.out, HMP.out, hnp] at CP
 rw [hval, hvalg]
 have HVS := kept (show g.vars.2 = f.vars.2 from hS.vars)
 rw [HNV.out] at HC0
 rw [HNB.out] at HC2
 rw [HMV.out, hnv] at HD0
 rw [HMB.out, hnb] at HD2
 clear hval h1 e0 e1 e2 hf HC1 hvalg h1g g0 g1 g2 hg HD1 hnv hnp hnb hS HNP HMV HMP HMB
 have hk0 : Keeps w (w.alloc (.cells #[.slice a0 f.nv c0, .slice a1 f.np c1, .slice a2 f.nb c2] 26)) [] := (Keeps.refl _ []).alloc _
 have bb0 := Blk.new w 26 #[.slice a0 f.nv c0, .slice a1 f.np c1, .slice a2 f.nb c2]
 have hk1 : Keeps (w.alloc (.cells #[.slice a0 f.nv c0, .slice a1 f.np c1, .slice a2 f.nb c2] 26)) ((w.alloc (.cells #[.slice a0 f.nv c0, .slice a1 f.np c1, .slice a2 f.nb c2] 26)).alloc (.cells #[.slice d0 f.nv k0, .slice d1 f.np k1, .slice d2 f.nb k2] 26)) [] := (Keeps.refl _ []).alloc _
 have bb1 := Blk.new (w.alloc (.cells #[.slice a0 f.nv c0, .slice a1 f.np c1, .slice a2 f.nb c2] 26)) 26 #[.slice d0 f.nv k0, .slice d1 f.np k1, .slice d2 f.nb k2]
 rw [show (w.alloc (.cells #[.slice a0 f.nv c0, .slice a1 f.np c1, .slice a2 f.nb c2] 26)).heap.size = w.heap.size + 1 by show (Array.push _ _).size = _; simp [Array.size_push]] at bb1
 have Bl := kept (bb0.keep hk1 (by simp))
 have Bm := kept bb1
 have HK := kept (hk0.and_then hk1)
 obtain ⟨l0, l1, l2⟩ := Bl.out.c3
 obtain ⟨m0, m1, m2⟩ := Bm.out.c3
 simp at l0 l1 l2 m0 m1 m2
 clear hk0 hk1 bb0 bb1
 go_enter Tryz.func32, Tryz.ntmps32
 go_upto_region 1 with (fail)
 clear l0 l1 l2 m0 m1 m2
 generalize ((w.alloc (.cells #[.slice a0 f.nv c0, .slice a1 f.np c1, .slice a2 f.nb c2] 26)).alloc (.cells #[.slice d0 f.nv k0, .slice d1 f.np k1, .slice d2 f.nb k2] 26)) = W0 at *
 have Bl_W0 := Bl
 have Bm_W0 := Bm
 have TW0 := HK
 clear HK
 have HK := kept (Keeps.refl W0 [])
 obtain ⟨l0, l1, l2⟩ := Bl.out.c3
 obtain ⟨m0, m1, m2⟩ := Bm.out.c3
 simp at l0 l1 l2 m0 m1 m2
 go_wp2_with (first | (go_at_call 53; refine (CP.out _ (HF.out.keep (TW0.out.and_then HK.out)) (HG.out.keep (TW0.out.and_then HK.out))).mono ?_; rintro e w3 ⟨rfl, k3⟩; clear l0 l1 l2 m0 m1 m2; replace Bl := kept (Bl.out.keep k3 (by simp)); replace Bm := kept (Bm.out.keep k3 (by simp)); replace HK := kept (HK.out.and_then k3); obtain ⟨l0, l1, l2⟩ := Bl.out.c3; obtain ⟨m0, m1, m2⟩ := Bm.out.c3; simp at l0 l1 l2 m0 m1 m2; clear k3))
 go_loopw [42] (fun i' wx => ∃ k : Nat, k ≤ f.nv ∧ i' = .int .i64 k ∧ Keeps W0 wx []) (fun i' _ => f.nv - (intOf i').toNat)
 case atStart => exact ⟨0, Nat.zero_le _, rfl, HK.out⟩
 case round =>
  obtain ⟨k, hk, rfl, hr⟩ := hrel
  clear l0 l1 l2 m0 m1 m2
  clear Bl Bm HK
  have HK := kept hr
  have Bl := kept (Bl_W0.out.keep hr (by simp))
  have Bm := kept (Bm_W0.out.keep hr (by simp))
  clear hr
  obtain ⟨l0, l1, l2⟩ := Bl.out.c3
  obtain ⟨m0, m1, m2⟩ := Bm.out.c3
  simp at l0 l1 l2 m0 m1 m2
  by_cases hlk : k < f.nv
  ·have hlz : (k : Int) < (f.nv : Int) := by omega
   obtain ⟨b, off, q1, -, h1⟩ := HC0.out k hlk
   obtain ⟨b2, off2, q3, -, h2⟩ := HD0.out k hlk
   obtain rfl := q1
   obtain rfl := q3
   rw [HVS.out] at h2
   have n0 := (TW0.out.and_then HK.out).cellOf (h1 0 _ rfl)
   have n1 := (TW0.out.and_then HK.out).cellOf (h1 1 _ rfl)
   have z0 := (TW0.out.and_then HK.out).cellOf (h2 0 _ rfl)
   have z1 := (TW0.out.and_then HK.out).cellOf (h2 1 _ rfl)
   simp only [Nat.add_zero] at n0 z0
   clear h1 h2
   generalize f.vars.2[k]!.name = vn at *
   generalize f.vars.2[k]!.type = vt at *
   have he := fun w => eq83 vn vt w
   go_wp2_with (first | (go_quiet (fail)))
   clear n0 n1 z0 z1 he
   go_roundw
   case rel => exact ⟨k + 1, by omega, by go_num, HK.out.drewN _⟩
   case measure => simp [intOf]; omega
  ·have hlz : ¬ (k : Int) < (f.nv : Int) := by omega
   obtain rfl : k = f.nv := by omega
   obtain ⟨Wa, hWa⟩ : ∃ Wa : World, Wa = wr := ⟨_, rfl⟩
   subst hWa
   clear l0 l1 l2 m0 m1 m2
   have Bl_Wa := Bl
   have Bm_Wa := Bm
   have TWa := HK
   clear HK
   have HK := kept (Keeps.refl Wa [])
   obtain ⟨l0, l1, l2⟩ := Bl.out.c3
   obtain ⟨m0, m1, m2⟩ := Bm.out.c3
   simp at l0 l1 l2 m0 m1 m2
   go_wp2
   go_loopw [60] (fun i' wx => ∃ k : Nat, k ≤ f.nb ∧ i' = .int .i64 k ∧ Keeps Wa wx []) (fun i' _ => f.nb - (intOf i').toNat)
   case atStart => exact ⟨0, Nat.zero_le _, rfl, HK.out⟩
   case round =>
    obtain ⟨b, hb, rfl, hr⟩ := hrel
    clear l0 l1 l2 m0 m1 m2
    clear Bl Bm HK
    have HK := kept hr
    have Bl := kept (Bl_Wa.out.keep hr (by simp))
    have Bm := kept (Bm_Wa.out.keep hr (by simp))
    clear hr
    obtain ⟨l0, l1, l2⟩ := Bl.out.c3
    obtain ⟨m0, m1, m2⟩ := Bm.out.c3
    simp at l0 l1 l2 m0 m1 m2
    by_cases hlb : b < f.nb
    ·have hlz : (b : Int) < (f.nb : Int) := by omega
     have HBS := kept (HS.out.blk b hlb)
     obtain ⟨yb, yo, q1, -, hbc⟩ := HC2.out b hlb
     obtain ⟨zb, zo, q3, -, hzc⟩ := HD2.out b hlb
     obtain rfl := q1
     obtain rfl := q3
     have HYA := kept (HF.out.block _ (bang_mem (l := f.blocks.2) (k := b) hlb))
     have HZA := kept (HG.out.block _ (bang_mem (l := g.blocks.2) (k := b) (by have h9 := HS.out.nb; have h8 : g.blocks.2.length = g.nb := rfl; omega)))
     obtain ⟨pa, pc, pe, pl, pm, hpc⟩ := HYA.out.phis.open_
     obtain ⟨qa, qc, qe, ql, qm, hqc⟩ := HYA.out.insts.open_
     obtain ⟨pb, pd, pf, -, -, hpd⟩ := HZA.out.phis.open_
     obtain ⟨qb, qd, qf, -, -, hqd⟩ := HZA.out.insts.open_
     have n0 := (TW0.out.and_then (TWa.out.and_then HK.out)).cellOf (hbc 0 _ rfl)
     have n1 := (TW0.out.and_then (TWa.out.and_then HK.out)).cellOf (hbc 1 _ rfl)
     have n2 := (TW0.out.and_then (TWa.out.and_then HK.out)).cellOf (hbc 2 _ rfl)
     have n3 := (TW0.out.and_then (TWa.out.and_then HK.out)).cellOf (hbc 3 _ rfl)
     have n4 := (TW0.out.and_then (TWa.out.and_then HK.out)).cellOf (hbc 4 _ rfl)
     have n5 := (TW0.out.and_then (TWa.out.and_then HK.out)).cellOf (hbc 5 _ rfl)
     have n6 := (TW0.out.and_then (TWa.out.and_then HK.out)).cellOf (hbc 6 _ rfl)
     have z0 := (TW0.out.and_then (TWa.out.and_then HK.out)).cellOf (hzc 0 _ rfl)
     have z1 := (TW0.out.and_then (TWa.out.and_then HK.out)).cellOf (hzc 1 _ rfl)
     have z2 := (TW0.out.and_then (TWa.out.and_then HK.out)).cellOf (hzc 2 _ rfl)
     have z3 := (TW0.out.and_then (TWa.out.and_then HK.out)).cellOf (hzc 3 _ rfl)
     have z4 := (TW0.out.and_then (TWa.out.and_then HK.out)).cellOf (hzc 4 _ rfl)
     have z5 := (TW0.out.and_then (TWa.out.and_then HK.out)).cellOf (hzc 5 _ rfl)
     have z6 := (TW0.out.and_then (TWa.out.and_then HK.out)).cellOf (hzc 6 _ rfl)
     simp only [Nat.add_zero] at n0 z0
     rw [pe] at n1
     rw [qe] at n2
     rw [pf] at z1
     rw [qf] at z2
     obtain ⟨y, hy⟩ : ∃ y, f.blocks.2[b]! = y := ⟨_, rfl⟩
     obtain ⟨z, hz⟩ : ∃ z, g.blocks.2[b]! = z := ⟨_, rfl⟩
     rw [hy] at n0 n1 n2 n3 n4 n5 n6 HBS HYA hpc hqc
     rw [hz] at z0 z1 z2 z3 z4 z5 z6 HBS HZA hpd hqd
     rw [hy] at pl ql
     clear hy hz hbc hzc pe qe pf qf
     rw [HBS.out.name] at z0
     rw [HBS.out.plen] at z1 hpd
     rw [HBS.out.ilen] at z2 hqd
     rw [HBS.out.kind] at z3
     rw [HBS.out.var] at z4
     rw [HBS.out.to0] at z5
     rw [HBS.out.to1] at z6
     have HPC := kept hpc
     have HPD := kept hpd
     have HQC := kept hqc
     have HQD := kept hqd
     clear hpc hpd hqc hqd
     have HPS := kept HBS.out.phi
     have HIS := kept HBS.out.ins
     have HPA := kept (fun p hp => HYA.out.phi p hp)
     have HPB := kept (fun p hp => HZA.out.phi p hp)
     have HIA := kept (fun p hp => HYA.out.inst p hp)
     have HIB := kept (fun p hp => HZA.out.inst p hp)
     have HPL := kept HBS.out.plen
     have HIL := kept HBS.out.ilen
     obtain ⟨pn, hpn⟩ : ∃ pn, y.phis.2.length = pn := ⟨_, rfl⟩
     rw [hpn] at n1 z1 HPC HPD HPS HPL pl
     have HPN := kept hpn
     clear hpn
     obtain ⟨qn, hqn⟩ : ∃ qn, y.insts.2.length = qn := ⟨_, rfl⟩
     rw [hqn] at n2 z2 HQC HQD HIS HIL ql
     have HQN := kept hqn
     clear hqn
     have hpn9 : pn ≤ 9223372036854775807 := by unfold maxLen at pm; omega
     have hqn9 : qn ≤ 9223372036854775807 := by unfold maxLen at qm; omega
     generalize y.name = yn at *
     generalize y.kind = yk at *
     generalize y.var = yv at *
     generalize y.to0 = y0 at *
     generalize y.to1 = y1 at *
     have he := fun w => eq36 yk yv y0 y1 w
     clear HBS HYA HZA pl pm ql qm
     obtain ⟨Wb, hWb⟩ : ∃ Wb : World, Wb = wr := ⟨_, rfl⟩
     subst hWb
     go_upto_region 12 with (fail)
     clear n0 n1 n2 n3 n4 n5 n6
     replace z0 := ((Keeps.refl Wb []).alloc (.cells #[.string yn, .slice pa pn pc, .slice qa qn qc, .int .i64 yk, .int .i64 yv, .int .i64 y0, .int .i64 y1] 38)).cellOf z0
     replace z1 := ((Keeps.refl Wb []).alloc (.cells #[.string yn, .slice pa pn pc, .slice qa qn qc, .int .i64 yk, .int .i64 yv, .int .i64 y0, .int .i64 y1] 38)).cellOf z1
     replace z2 := ((Keeps.refl Wb []).alloc (.cells #[.string yn, .slice pa pn pc, .slice qa qn qc, .int .i64 yk, .int .i64 yv, .int .i64 y0, .int .i64 y1] 38)).cellOf z2
     replace z3 := ((Keeps.refl Wb []).alloc (.cells #[.string yn, .slice pa pn pc, .slice qa qn qc, .int .i64 yk, .int .i64 yv, .int .i64 y0, .int .i64 y1] 38)).cellOf z3
     replace z4 := ((Keeps.refl Wb []).alloc (.cells #[.string yn, .slice pa pn pc, .slice qa qn qc, .int .i64 yk, .int .i64 yv, .int .i64 y0, .int .i64 y1] 38)).cellOf z4
     replace z5 := ((Keeps.refl Wb []).alloc (.cells #[.string yn, .slice pa pn pc, .slice qa qn qc, .int .i64 yk, .int .i64 yv, .int .i64 y0, .int .i64 y1] 38)).cellOf z5
     replace z6 := ((Keeps.refl Wb []).alloc (.cells #[.string yn, .slice pa pn pc, .slice qa qn qc, .int .i64 yk, .int .i64 yv, .int .i64 y0, .int .i64 y1] 38)).cellOf z6
     clear l0 l1 l2 m0 m1 m2
     have bmx := Blk.new Wb 38 #[.string yn, .slice pa pn pc, .slice qa qn qc, .int .i64 yk, .int .i64 yv, .int .i64 y0, .int .i64 y1]
     have k3 : Keeps Wb (Wb.alloc (.cells #[.string yn, .slice pa pn pc, .slice qa qn qc, .int .i64 yk, .int .i64 yv, .int .i64 y0, .int .i64 y1] 38)) [] := (Keeps.refl Wb []).alloc _
     replace Bl := kept (Bl.out.keep k3 (by simp))
     replace Bm := kept (Bm.out.keep k3 (by simp))
     replace HK := kept (HK.out.and_then k3)
     have Bya := kept bmx
     clear k3 bmx
     generalize Wb.alloc (.cells #[.string yn, .slice pa pn pc, .slice qa qn qc, .int .i64 yk, .int .i64 yv, .int .i64 y0, .int .i64 y1] 38) = Wc at *
     obtain ⟨l0, l1, l2⟩ := Bl.out.c3
     obtain ⟨m0, m1, m2⟩ := Bm.out.c3
     obtain ⟨ya0, ya1, ya2, ya3, ya4, ya5, ya6⟩ := Bya.out.c7
     simp at l0 l1 l2 m0 m1 m2 ya0 ya1 ya2 ya3 ya4 ya5 ya6
     go_upto_region 13 with (fail)
     clear z0 z1 z2 z3 z4 z5 z6
     clear l0 l1 l2 m0 m1 m2 ya0 ya1 ya2 ya3 ya4 ya5 ya6
     have bmx := Blk.new Wc 38 #[.string yn, .slice pb pn pd, .slice qb qn qd, .int .i64 yk, .int .i64 yv, .int .i64 y0, .int .i64 y1]
     have k3 : Keeps Wc (Wc.alloc (.cells #[.string yn, .slice pb pn pd, .slice qb qn qd, .int .i64 yk, .int .i64 yv, .int .i64 y0, .int .i64 y1] 38)) [] := (Keeps.refl Wc []).alloc _
     replace Bl := kept (Bl.out.keep k3 (by simp))
     replace Bm := kept (Bm.out.keep k3 (by simp))
     replace Bya := kept (Bya.out.keep k3 (by simp))
     replace HK := kept (HK.out.and_then k3)
     have Bza := kept bmx
     clear k3 bmx
     obtain ⟨l0, l1, l2⟩ := Bl.out.c3
     obtain ⟨m0, m1, m2⟩ := Bm.out.c3
     obtain ⟨ya0, ya1, ya2, ya3, ya4, ya5, ya6⟩ := Bya.out.c7
     obtain ⟨za0, za1, za2, za3, za4, za5, za6⟩ := Bza.out.c7
     simp at l0 l1 l2 m0 m1 m2 ya0 ya1 ya2 ya3 ya4 ya5 ya6 za0 za1 za2 za3 za4 za5 za6
     clear l0 l1 l2 m0 m1 m2 ya0 ya1 ya2 ya3 ya4 ya5 ya6 za0 za1 za2 za3 za4 za5 za6
     generalize Wc.alloc (.cells #[.string yn, .slice pb pn pd, .slice qb qn qd, .int .i64 yk, .int .i64 yv, .int .i64 y0, .int .i64 y1] 38) = Wd at *
     have Bl_Wd := Bl
     have Bm_Wd := Bm
     have Bya_Wd := Bya
     have Bza_Wd := Bza
     have TWd := HK
     clear HK
     have HK := kept (Keeps.refl Wd [])
     obtain ⟨l0, l1, l2⟩ := Bl.out.c3
     obtain ⟨m0, m1, m2⟩ := Bm.out.c3
     obtain ⟨ya0, ya1, ya2, ya3, ya4, ya5, ya6⟩ := Bya.out.c7
     obtain ⟨za0, za1, za2, za3, za4, za5, za6⟩ := Bza.out.c7
     simp at l0 l1 l2 m0 m1 m2 ya0 ya1 ya2 ya3 ya4 ya5 ya6 za0 za1 za2 za3 za4 za5 za6
     go_wp2
     clear he
     go_loopw [103] (fun i' wx => ∃ k : Nat, k ≤ pn ∧ i' = .int .i64 k ∧ Keeps Wd wx []) (fun i' _ => pn - (intOf i').toNat)
     case atStart => exact ⟨0, Nat.zero_le _, rfl, HK.out⟩
     case round =>
      obtain ⟨k, hk, rfl, hr⟩ := hrel
      clear l0 l1 l2 m0 m1 m2 ya0 ya1 ya2 ya3 ya4 ya5 ya6 za0 za1 za2 za3 za4 za5 za6
      clear Bl Bm Bya Bza HK
      have HK := kept hr
      have Bl := kept (Bl_Wd.out.keep hr (by simp))
      have Bm := kept (Bm_Wd.out.keep hr (by simp))
      have Bya := kept (Bya_Wd.out.keep hr (by simp))
      have Bza := kept (Bza_Wd.out.keep hr (by simp))
      clear hr
      obtain ⟨l0, l1, l2⟩ := Bl.out.c3
      obtain ⟨m0, m1, m2⟩ := Bm.out.c3
      obtain ⟨ya0, ya1, ya2, ya3, ya4, ya5, ya6⟩ := Bya.out.c7
      obtain ⟨za0, za1, za2, za3, za4, za5, za6⟩ := Bza.out.c7
      simp at l0 l1 l2 m0 m1 m2 ya0 ya1 ya2 ya3 ya4 ya5 ya6 za0 za1 za2 za3 za4 za5 za6
      by_cases hlk : k < pn
      ·have hlkz : (k : Int) < (pn : Int) := by omega
       obtain ⟨xb, xo, q1, -, hx⟩ := HPC.out k hlk
       obtain ⟨ub, uo, q3, -, hu⟩ := HPD.out k hlk
       obtain rfl := q1
       obtain rfl := q3
       obtain ⟨s1, s2, s3⟩ := HPS.out k hlk
       have HXA := kept (HPA.out _ (bang_mem (l := y.phis.2) (k := k) (by rw [HPN.out]; exact hlk)))
       have HUA := kept (HPB.out _ (bang_mem (l := z.phis.2) (k := k) (by rw [HPL.out]; exact hlk)))
       have n0 := (TW0.out.and_then (TWa.out.and_then (TWd.out.and_then HK.out))).cellOf (hx 0 _ rfl)
       have n1 := (TW0.out.and_then (TWa.out.and_then (TWd.out.and_then HK.out))).cellOf (hx 1 _ rfl)
       have n2 := (TW0.out.and_then (TWa.out.and_then (TWd.out.and_then HK.out))).cellOf (hx 2 _ rfl)
       have z0 := (TW0.out.and_then (TWa.out.and_then (TWd.out.and_then HK.out))).cellOf (hu 0 _ rfl)
       have z1 := (TW0.out.and_then (TWa.out.and_then (TWd.out.and_then HK.out))).cellOf (hu 1 _ rfl)
       have z2 := (TW0.out.and_then (TWa.out.and_then (TWd.out.and_then HK.out))).cellOf (hu 2 _ rfl)
       simp only [Nat.add_zero] at n0 z0
       clear hx hu
       generalize y.phis.2[k]! = p at *
       generalize z.phis.2[k]! = q at *
       have CA := kept (fun W (h1 : FuncAt W f) (h2 : PhiAt W p) (h3 : PhiAt W q) => ints53_any p.args q.args W h2.1 h3.1 s2)
       have CB := kept (fun W (h2 : PhiAt W p) (h3 : PhiAt W q) => ints53_any p.froms q.froms W h2.2 h3.2 s3)
       rw [← s1] at z0
       clear s1 s2 s3
       obtain ⟨x0, x1, ex1, -, -, -⟩ := HXA.out.1.open_
       obtain ⟨x2, x3, ex2, -, -, -⟩ := HXA.out.2.open_
       obtain ⟨u0, u1, eu1, -, -, -⟩ := HUA.out.1.open_
       obtain ⟨u2, u3, eu2, -, -, -⟩ := HUA.out.2.open_
       rw [ex1] at n1 CA
       rw [ex2] at n2 CB
       rw [eu1] at z1 CA
       rw [eu2] at z2 CB
       clear ex1 ex2 eu1 eu2
       generalize p.args.2.length = nl1 at *
       generalize p.froms.2.length = nl2 at *
       generalize q.args.2.length = nl3 at *
       generalize q.froms.2.length = nl4 at *
       generalize p.dst = pd9 at *
       obtain ⟨We, hWe⟩ : ∃ We : World, We = wr := ⟨_, rfl⟩
       subst hWe
       go_upto_region 18 with (fail)
       clear n0 n1 n2
       replace z0 := ((Keeps.refl We []).alloc (.cells #[.int .i64 pd9, .slice x0 nl1 x1, .slice x2 nl2 x3] 95)).cellOf z0
       replace z1 := ((Keeps.refl We []).alloc (.cells #[.int .i64 pd9, .slice x0 nl1 x1, .slice x2 nl2 x3] 95)).cellOf z1
       replace z2 := ((Keeps.refl We []).alloc (.cells #[.int .i64 pd9, .slice x0 nl1 x1, .slice x2 nl2 x3] 95)).cellOf z2
       clear l0 l1 l2 m0 m1 m2 ya0 ya1 ya2 ya3 ya4 ya5 ya6 za0 za1 za2 za3 za4 za5 za6
       have bmx := Blk.new We 95 #[.int .i64 pd9, .slice x0 nl1 x1, .slice x2 nl2 x3]
       have k3 : Keeps We (We.alloc (.cells #[.int .i64 pd9, .slice x0 nl1 x1, .slice x2 nl2 x3] 95)) [] := (Keeps.refl We []).alloc _
       replace Bl := kept (Bl.out.keep k3 (by simp))
       replace Bm := kept (Bm.out.keep k3 (by simp))
       replace Bya := kept (Bya.out.keep k3 (by simp))
       replace Bza := kept (Bza.out.keep k3 (by simp))
       replace HK := kept (HK.out.and_then k3)
       have Bxa := kept bmx
       clear k3 bmx
       generalize We.alloc (.cells #[.int .i64 pd9, .slice x0 nl1 x1, .slice x2 nl2 x3] 95) = Wf at *
       obtain ⟨l0, l1, l2⟩ := Bl.out.c3
       obtain ⟨m0, m1, m2⟩ := Bm.out.c3
       obtain ⟨ya0, ya1, ya2, ya3, ya4, ya5, ya6⟩ := Bya.out.c7
       obtain ⟨za0, za1, za2, za3, za4, za5, za6⟩ := Bza.out.c7
       obtain ⟨xa0, xa1, xa2⟩ := Bxa.out.c3
       simp at l0 l1 l2 m0 m1 m2 ya0 ya1 ya2 ya3 ya4 ya5 ya6 za0 za1 za2 za3 za4 za5 za6 xa0 xa1 xa2
       go_upto_region 19 with (fail)
       clear z0 z1 z2
       clear l0 l1 l2 m0 m1 m2 ya0 ya1 ya2 ya3 ya4 ya5 ya6 za0 za1 za2 za3 za4 za5 za6 xa0 xa1 xa2
       have bmx := Blk.new Wf 95 #[.int .i64 pd9, .slice u0 nl3 u1, .slice u2 nl4 u3]
       have k3 : Keeps Wf (Wf.alloc (.cells #[.int .i64 pd9, .slice u0 nl3 u1, .slice u2 nl4 u3] 95)) [] := (Keeps.refl Wf []).alloc _
       replace Bl := kept (Bl.out.keep k3 (by simp))
       replace Bm := kept (Bm.out.keep k3 (by simp))
       replace Bya := kept (Bya.out.keep k3 (by simp))
       replace Bza := kept (Bza.out.keep k3 (by simp))
       replace Bxa := kept (Bxa.out.keep k3 (by simp))
       replace HK := kept (HK.out.and_then k3)
       have Bua := kept bmx
       clear k3 bmx
       generalize Wf.alloc (.cells #[.int .i64 pd9, .slice u0 nl3 u1, .slice u2 nl4 u3] 95) = Wg at *
       obtain ⟨l0, l1, l2⟩ := Bl.out.c3
       obtain ⟨m0, m1, m2⟩ := Bm.out.c3
       obtain ⟨ya0, ya1, ya2, ya3, ya4, ya5, ya6⟩ := Bya.out.c7
       obtain ⟨za0, za1, za2, za3, za4, za5, za6⟩ := Bza.out.c7
       obtain ⟨xa0, xa1, xa2⟩ := Bxa.out.c3
       obtain ⟨ua0, ua1, ua2⟩ := Bua.out.c3
       simp at l0 l1 l2 m0 m1 m2 ya0 ya1 ya2 ya3 ya4 ya5 ya6 za0 za1 za2 za3 za4 za5 za6 xa0 xa1 xa2 ua0 ua1 ua2
       go_wp2_with (first | (go_at_call 53; refine (CA.out _ (HF.out.keep (TW0.out.and_then (TWa.out.and_then (TWd.out.and_then HK.out)))) (phiAt_keep HXA.out (TW0.out.and_then (TWa.out.and_then (TWd.out.and_then HK.out)))) (phiAt_keep HUA.out (TW0.out.and_then (TWa.out.and_then (TWd.out.and_then HK.out))))).mono ?_; rintro e w3 ⟨rfl, k3⟩; clear CA; clear l0 l1 l2 m0 m1 m2 ya0 ya1 ya2 ya3 ya4 ya5 ya6 za0 za1 za2 za3 za4 za5 za6 xa0 xa1 xa2 ua0 ua1 ua2; replace Bl := kept (Bl.out.keep k3 (by simp)); replace Bm := kept (Bm.out.keep k3 (by simp)); replace Bya := kept (Bya.out.keep k3 (by simp)); replace Bza := kept (Bza.out.keep k3 (by simp)); replace Bxa := kept (Bxa.out.keep k3 (by simp)); replace Bua := kept (Bua.out.keep k3 (by simp)); replace HK := kept (HK.out.and_then k3); obtain ⟨l0, l1, l2⟩ := Bl.out.c3; obtain ⟨m0, m1, m2⟩ := Bm.out.c3; obtain ⟨ya0, ya1, ya2, ya3, ya4, ya5, ya6⟩ := Bya.out.c7; obtain ⟨za0, za1, za2, za3, za4, za5, za6⟩ := Bza.out.c7; obtain ⟨xa0, xa1, xa2⟩ := Bxa.out.c3; obtain ⟨ua0, ua1, ua2⟩ := Bua.out.c3; simp at l0 l1 l2 m0 m1 m2 ya0 ya1 ya2 ya3 ya4 ya5 ya6 za0 za1 za2 za3 za4 za5 za6 xa0 xa1 xa2 ua0 ua1 ua2; clear k3) | (go_at_call 53; refine (CB.out _ (phiAt_keep HXA.out (TW0.out.and_then (TWa.out.and_then (TWd.out.and_then HK.out)))) (phiAt_keep HUA.out (TW0.out.and_then (TWa.out.and_then (TWd.out.and_then HK.out))))).mono ?_; rintro e w3 ⟨rfl, k3⟩; clear CB; clear l0 l1 l2 m0 m1 m2 ya0 ya1 ya2 ya3 ya4 ya5 ya6 za0 za1 za2 za3 za4 za5 za6 xa0 xa1 xa2 ua0 ua1 ua2; replace Bl := kept (Bl.out.keep k3 (by simp)); replace Bm := kept (Bm.out.keep k3 (by simp)); replace Bya := kept (Bya.out.keep k3 (by simp)); replace Bza := kept (Bza.out.keep k3 (by simp)); replace Bxa := kept (Bxa.out.keep k3 (by simp)); replace Bua := kept (Bua.out.keep k3 (by simp)); replace HK := kept (HK.out.and_then k3); obtain ⟨l0, l1, l2⟩ := Bl.out.c3; obtain ⟨m0, m1, m2⟩ := Bm.out.c3; obtain ⟨ya0, ya1, ya2, ya3, ya4, ya5, ya6⟩ := Bya.out.c7; obtain ⟨za0, za1, za2, za3, za4, za5, za6⟩ := Bza.out.c7; obtain ⟨xa0, xa1, xa2⟩ := Bxa.out.c3; obtain ⟨ua0, ua1, ua2⟩ := Bua.out.c3; simp at l0 l1 l2 m0 m1 m2 ya0 ya1 ya2 ya3 ya4 ya5 ya6 za0 za1 za2 za3 za4 za5 za6 xa0 xa1 xa2 ua0 ua1 ua2; clear k3))
       go_roundw
       case rel => exact ⟨k + 1, by omega, by go_num, HK.out⟩
       case measure => simp [intOf]; omega
      ·have hlkz : ¬ (k : Int) < (pn : Int) := by omega
       obtain rfl : k = pn := by omega
       clear HPC HPD HPS HPA HPB
       obtain ⟨Wh, hWh⟩ : ∃ Wh : World, Wh = wr := ⟨_, rfl⟩
       subst hWh
       clear l0 l1 l2 m0 m1 m2 ya0 ya1 ya2 ya3 ya4 ya5 ya6 za0 za1 za2 za3 za4 za5 za6
       have Bl_Wh := Bl
       have Bm_Wh := Bm
       have Bya_Wh := Bya
       have Bza_Wh := Bza
       have TWh := HK
       clear HK
       have HK := kept (Keeps.refl Wh [])
       obtain ⟨l0, l1, l2⟩ := Bl.out.c3
       obtain ⟨m0, m1, m2⟩ := Bm.out.c3
       obtain ⟨ya0, ya1, ya2, ya3, ya4, ya5, ya6⟩ := Bya.out.c7
       obtain ⟨za0, za1, za2, za3, za4, za5, za6⟩ := Bza.out.c7
       simp at l0 l1 l2 m0 m1 m2 ya0 ya1 ya2 ya3 ya4 ya5 ya6 za0 za1 za2 za3 za4 za5 za6
       go_wp2
       go_loopw [138] (fun i' wx => ∃ k : Nat, k ≤ qn ∧ i' = .int .i64 k ∧ Keeps Wh wx []) (fun i' _ => qn - (intOf i').toNat)
       case atStart => exact ⟨0, Nat.zero_le _, rfl, HK.out⟩
       case round =>
        obtain ⟨k, hk, rfl, hr⟩ := hrel
        clear l0 l1 l2 m0 m1 m2 ya0 ya1 ya2 ya3 ya4 ya5 ya6 za0 za1 za2 za3 za4 za5 za6
        clear Bl Bm Bya Bza HK
        have HK := kept hr
        have Bl := kept (Bl_Wh.out.keep hr (by simp))
        have Bm := kept (Bm_Wh.out.keep hr (by simp))
        have Bya := kept (Bya_Wh.out.keep hr (by simp))
        have Bza := kept (Bza_Wh.out.keep hr (by simp))
        clear hr
        obtain ⟨l0, l1, l2⟩ := Bl.out.c3
        obtain ⟨m0, m1, m2⟩ := Bm.out.c3
        obtain ⟨ya0, ya1, ya2, ya3, ya4, ya5, ya6⟩ := Bya.out.c7
        obtain ⟨za0, za1, za2, za3, za4, za5, za6⟩ := Bza.out.c7
        simp at l0 l1 l2 m0 m1 m2 ya0 ya1 ya2 ya3 ya4 ya5 ya6 za0 za1 za2 za3 za4 za5 za6
        by_cases hlk : k < qn
        ·have hlkz : (k : Int) < (qn : Int) := by omega
         obtain ⟨xb, xo, q1, -, hx⟩ := HQC.out k hlk
         obtain ⟨ub, uo, q3, -, hu⟩ := HQD.out k hlk
         obtain rfl := q1
         obtain rfl := q3
         obtain ⟨s1, s2, s3, s4⟩ := HIS.out k hlk
         have HXA := kept (HIA.out _ (bang_mem (l := y.insts.2) (k := k) (by rw [HQN.out]; exact hlk)))
         have HUA := kept (HIB.out _ (bang_mem (l := z.insts.2) (k := k) (by rw [HIL.out]; exact hlk)))
         have n0 := (TW0.out.and_then (TWa.out.and_then (TWd.out.and_then (TWh.out.and_then HK.out)))).cellOf (hx 0 _ rfl)
         have n1 := (TW0.out.and_then (TWa.out.and_then (TWd.out.and_then (TWh.out.and_then HK.out)))).cellOf (hx 1 _ rfl)
         have n2 := (TW0.out.and_then (TWa.out.and_then (TWd.out.and_then (TWh.out.and_then HK.out)))).cellOf (hx 2 _ rfl)
         have n3 := (TW0.out.and_then (TWa.out.and_then (TWd.out.and_then (TWh.out.and_then HK.out)))).cellOf (hx 3 _ rfl)
         have z0 := (TW0.out.and_then (TWa.out.and_then (TWd.out.and_then (TWh.out.and_then HK.out)))).cellOf (hu 0 _ rfl)
         have z1 := (TW0.out.and_then (TWa.out.and_then (TWd.out.and_then (TWh.out.and_then HK.out)))).cellOf (hu 1 _ rfl)
         have z2 := (TW0.out.and_then (TWa.out.and_then (TWd.out.and_then (TWh.out.and_then HK.out)))).cellOf (hu 2 _ rfl)
         have z3 := (TW0.out.and_then (TWa.out.and_then (TWd.out.and_then (TWh.out.and_then HK.out)))).cellOf (hu 3 _ rfl)
         simp only [Nat.add_zero] at n0 z0
         clear hx hu
         generalize y.insts.2[k]! = p at *
         generalize z.insts.2[k]! = q at *
         have CA := kept (fun W (h2 : InstAt W p) (h3 : InstAt W q) => ints53_any p.args q.args W h2 h3 s3.symm)
         rw [s1] at z0
         rw [s2] at z1
         rw [s4] at z3
         clear s1 s2 s3 s4
         obtain ⟨x0, x1, ex1, -, -, -⟩ := IntsAt.open_ HXA.out
         obtain ⟨u0, u1, eu1, -, -, -⟩ := IntsAt.open_ HUA.out
         rw [ex1] at n2 CA
         rw [eu1] at z2 CA
         clear ex1 eu1
         generalize p.args.2.length = nl1 at *
         generalize q.args.2.length = nl3 at *
         generalize p.dst = pd9 at *
         generalize p.op = po9 at *
         generalize p.num = pm9 at *
         obtain ⟨We, hWe⟩ : ∃ We : World, We = wr := ⟨_, rfl⟩
         subst hWe
         go_upto_region 25 with (fail)
         clear n0 n1 n2 n3
         replace z0 := ((Keeps.refl We []).alloc (.cells #[.int .i64 po9, .int .i64 pd9, .slice x0 nl1 x1, .int .i64 pm9] 43)).cellOf z0
         replace z1 := ((Keeps.refl We []).alloc (.cells #[.int .i64 po9, .int .i64 pd9, .slice x0 nl1 x1, .int .i64 pm9] 43)).cellOf z1
         replace z2 := ((Keeps.refl We []).alloc (.cells #[.int .i64 po9, .int .i64 pd9, .slice x0 nl1 x1, .int .i64 pm9] 43)).cellOf z2
         replace z3 := ((Keeps.refl We []).alloc (.cells #[.int .i64 po9, .int .i64 pd9, .slice x0 nl1 x1, .int .i64 pm9] 43)).cellOf z3
         clear l0 l1 l2 m0 m1 m2 ya0 ya1 ya2 ya3 ya4 ya5 ya6 za0 za1 za2 za3 za4 za5 za6
         have bmx := Blk.new We 43 #[.int .i64 po9, .int .i64 pd9, .slice x0 nl1 x1, .int .i64 pm9]
         have k3 : Keeps We (We.alloc (.cells #[.int .i64 po9, .int .i64 pd9, .slice x0 nl1 x1, .int .i64 pm9] 43)) [] := (Keeps.refl We []).alloc _
         replace Bl := kept (Bl.out.keep k3 (by simp))
         replace Bm := kept (Bm.out.keep k3 (by simp))
         replace Bya := kept (Bya.out.keep k3 (by simp))
         replace Bza := kept (Bza.out.keep k3 (by simp))
         replace HK := kept (HK.out.and_then k3)
         have Bxa := kept bmx
         clear k3 bmx
         generalize We.alloc (.cells #[.int .i64 po9, .int .i64 pd9, .slice x0 nl1 x1, .int .i64 pm9] 43) = Wf at *
         obtain ⟨l0, l1, l2⟩ := Bl.out.c3
         obtain ⟨m0, m1, m2⟩ := Bm.out.c3
         obtain ⟨ya0, ya1, ya2, ya3, ya4, ya5, ya6⟩ := Bya.out.c7
         obtain ⟨za0, za1, za2, za3, za4, za5, za6⟩ := Bza.out.c7
         obtain ⟨xa0, xa1, xa2, xa3⟩ := Bxa.out.c4
         simp at l0 l1 l2 m0 m1 m2 ya0 ya1 ya2 ya3 ya4 ya5 ya6 za0 za1 za2 za3 za4 za5 za6 xa0 xa1 xa2 xa3
         go_upto_region 26 with (fail)
         clear z0 z1 z2 z3
         clear l0 l1 l2 m0 m1 m2 ya0 ya1 ya2 ya3 ya4 ya5 ya6 za0 za1 za2 za3 za4 za5 za6 xa0 xa1 xa2 xa3
         have bmx := Blk.new Wf 43 #[.int .i64 po9, .int .i64 pd9, .slice u0 nl3 u1, .int .i64 pm9]
         have k3 : Keeps Wf (Wf.alloc (.cells #[.int .i64 po9, .int .i64 pd9, .slice u0 nl3 u1, .int .i64 pm9] 43)) [] := (Keeps.refl Wf []).alloc _
         replace Bl := kept (Bl.out.keep k3 (by simp))
         replace Bm := kept (Bm.out.keep k3 (by simp))
         replace Bya := kept (Bya.out.keep k3 (by simp))
         replace Bza := kept (Bza.out.keep k3 (by simp))
         replace Bxa := kept (Bxa.out.keep k3 (by simp))
         replace HK := kept (HK.out.and_then k3)
         have Bua := kept bmx
         clear k3 bmx
         generalize Wf.alloc (.cells #[.int .i64 po9, .int .i64 pd9, .slice u0 nl3 u1, .int .i64 pm9] 43) = Wg at *
         obtain ⟨l0, l1, l2⟩ := Bl.out.c3
         obtain ⟨m0, m1, m2⟩ := Bm.out.c3
         obtain ⟨ya0, ya1, ya2, ya3, ya4, ya5, ya6⟩ := Bya.out.c7
         obtain ⟨za0, za1, za2, za3, za4, za5, za6⟩ := Bza.out.c7
         obtain ⟨xa0, xa1, xa2, xa3⟩ := Bxa.out.c4
         obtain ⟨ua0, ua1, ua2, ua3⟩ := Bua.out.c4
         simp at l0 l1 l2 m0 m1 m2 ya0 ya1 ya2 ya3 ya4 ya5 ya6 za0 za1 za2 za3 za4 za5 za6 xa0 xa1 xa2 xa3 ua0 ua1 ua2 ua3
         go_wp2_with (first | (go_at_call 53; refine (CA.out _ (IntsAt.keepS HXA.out (TW0.out.and_then (TWa.out.and_then (TWd.out.and_then (TWh.out.and_then HK.out))))) (IntsAt.keepS HUA.out (TW0.out.and_then (TWa.out.and_then (TWd.out.and_then (TWh.out.and_then HK.out)))))).mono ?_; rintro e w3 ⟨rfl, k3⟩; clear CA; clear l0 l1 l2 m0 m1 m2 ya0 ya1 ya2 ya3 ya4 ya5 ya6 za0 za1 za2 za3 za4 za5 za6 xa0 xa1 xa2 xa3 ua0 ua1 ua2 ua3; replace Bl := kept (Bl.out.keep k3 (by simp)); replace Bm := kept (Bm.out.keep k3 (by simp)); replace Bya := kept (Bya.out.keep k3 (by simp)); replace Bza := kept (Bza.out.keep k3 (by simp)); replace Bxa := kept (Bxa.out.keep k3 (by simp)); replace Bua := kept (Bua.out.keep k3 (by simp)); replace HK := kept (HK.out.and_then k3); obtain ⟨l0, l1, l2⟩ := Bl.out.c3; obtain ⟨m0, m1, m2⟩ := Bm.out.c3; obtain ⟨ya0, ya1, ya2, ya3, ya4, ya5, ya6⟩ := Bya.out.c7; obtain ⟨za0, za1, za2, za3, za4, za5, za6⟩ := Bza.out.c7; obtain ⟨xa0, xa1, xa2, xa3⟩ := Bxa.out.c4; obtain ⟨ua0, ua1, ua2, ua3⟩ := Bua.out.c4; simp at l0 l1 l2 m0 m1 m2 ya0 ya1 ya2 ya3 ya4 ya5 ya6 za0 za1 za2 za3 za4 za5 za6 xa0 xa1 xa2 xa3 ua0 ua1 ua2 ua3; clear k3))
         go_roundw
         case rel => exact ⟨k + 1, by omega, by go_num, HK.out⟩
         case measure => simp [intOf]; omega
        ·have hlkz : ¬ (k : Int) < (qn : Int) := by omega
         obtain rfl : k = qn := by omega
         go_wp2
         go_roundw
         case rel => exact ⟨b + 1, by omega, by go_num, (TWd.out.and_then (TWh.out.and_then HK.out))⟩
         case measure => simp [intOf]; omega
    ·have hlz : ¬ (b : Int) < (f.nb : Int) := by omega
     obtain rfl : b = f.nb := by omega
     go_wp2
     go_ret
     exact ⟨rfl, (TW0.out.and_then (TWa.out.and_then HK.out))⟩
end Go.Proofs.YtjllbchfojonhaaGreatDoor
