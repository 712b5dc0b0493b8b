/- The law 'GuardMakes': the walk. -/
import Derived.Test.YtjllbchfojonhaaGreatDoorGME
import Derived.Test.YtjllbchfojonhaaGreatDoorSM
import Derived.Test.YtjllbchfojonhaaGreatDoorMK
namespace Go.Proofs.YtjllbchfojonhaaGreatDoor
open Go.RowKit Go.Shelf Go.Lib
set_option linter.unusedVariables false
set_option linter.unusedSimpArgs false

theorem make24_any (f : FuncM) (w : World) (ht : Tabs w) (hf : FuncAt w f) (hfew : FewP f) (hcb : CopyB f) : Calls Tryz.prog 24 #[f.val] w fun e w' => MakeRet f w' e ∧ Keeps w w' [] := by
 by_cases hT : typedE f = 0
 ·by_cases hN : phT f f.nb + inT f f.nb + (placesL f).length ≤ 1024
  ·exact make24_yes f w ht hf hfew hcb hT hN
  ·exact make24_many f w ht hf hfew hcb hT hN
 ·exact make24_no f w ht hf hfew hcb hT
theorem progS_two {Y : Nat → List InstM} {f g h : FuncM} (hg : ProgS Y f g) (hh : ProgS Y f h) : ProgS (fun b => g.blocks.2[b]!.insts.2) g h := by
 refine ⟨hh.vars.trans hg.vars.symm, hh.params.trans hg.params.symm, hh.nb.trans hg.nb.symm, fun b hb => ?_⟩
 have hb : b < f.nb := by rw [← hg.nb]; exact hb
 have a := hg.blk b hb
 have c := hh.blk b hb
 refine ⟨c.name.trans a.name.symm, c.plen.trans a.plen.symm, fun k hk => ?_, c.ilen.trans a.ilen.symm, fun k hk => ?_, c.kind.trans a.kind.symm, c.var.trans a.var.symm, c.to0.trans a.to0.symm, c.to1.trans a.to1.symm⟩
 ·rw [a.plen] at hk
  obtain ⟨a1, a2, a3⟩ := a.phi k hk
  obtain ⟨c1, c2, c3⟩ := c.phi k hk
  exact ⟨a1.symm.trans c1, a2.symm.trans c2, a3.symm.trans c3⟩
 ·rw [a.ilen] at hk
  exact same_trans (c.ins k hk) (same_symm (a.ins k hk))

set_option maxRecDepth 100000 in
set_option maxHeartbeats 200000000 in
theorem walkGuardMakes (f : FuncM) (w : World) (ht : Tabs w) (hf : FuncAt w f) : Calls Tryz.prog 7 #[f.val] w fun e w' => e = .returned (.bool true) ∧ Keeps w w' [] := by
 have CLv := kept (fun W h => lives8_any W h)
 have C16 := kept (fun W (h2 : FuncAt W f) => few_exact f W h2)
 have C9 := kept (fun W h1 (h2 : FuncAt W f) => typed10_any f W h1 h2)
 have C24 := kept (fun (h : fewB f = true) W h1 (h2 : FuncAt W f) => make24_any f W h1 h2 (few_p h) (copy_few h))
 have C30 := kept (fun (h : fewB f = true) (hT : typedE f = 0) W (h2 : FuncAt W f) => make30_any f W h2 hT (few_p h) (typed_nb hT))
 have HTB := kept ht
 obtain ⟨a0, c0, a1, c1, a2, c2, e0, e1, e2, hval, h1, HF, HC0, HC1, HC2, HNV, HNP, HNB⟩ := fopen hf
 rw [hval] at C16 C9 C24 C30
 rw [hval]
 clear hval h1 e0 e1 e2 hf HC0 HC1 HC2 ht
 obtain ⟨HK, Bl⟩ := fbox w 26 #[.slice a0 f.nv c0, .slice a1 f.np c1, .slice a2 f.nb c2]
 obtain ⟨l0, l1, l2⟩ := Bl.out.c3
 simp at l0 l1 l2
 go_enter Tryz.func7, Tryz.ntmps7
 cases hB : fewB f with
 | false =>
  rw [hB] at C16
  clear hB C24 C30
  go_wp2_with (first | (go_at_call 8; refine (CLv.out _ (HTB.out.keep HK.out)).mono ?_; rintro e w3 ⟨rfl, k3⟩; clear l0 l1 l2; replace Bl := kept (Bl.out.keep k3 (by simp)); replace HK := kept (HK.out.and_then k3); obtain ⟨l0, l1, l2⟩ := Bl.out.c3; simp at l0 l1 l2; clear k3) | (go_at_call 16; refine (C16.out _ (HF.out.keep HK.out)).mono ?_; rintro e w3 ⟨rfl, k3⟩; clear l0 l1 l2; replace Bl := kept (Bl.out.keep k3 (by simp)); replace HK := kept (HK.out.and_then k3); obtain ⟨l0, l1, l2⟩ := Bl.out.c3; simp at l0 l1 l2; clear k3))
  go_ret
  exact ⟨rfl, HK.out⟩
 | true =>
  have C24x := kept (C24.out hB)
  have C30x := kept (C30.out hB)
  have HFB := kept hB
  rw [hB] at C16
  clear C24 C30 hB
  by_cases hT : typedE f = 0
  ·have ht10 : typed10 f = true := typed10_iff.2 ⟨HFB.out, hT⟩
   rw [ht10] at C9
   clear ht10
   have C30y := kept (C30x.out hT)
   clear C30x
   have HT := kept hT
   by_cases hN : phT f f.nb + inT f f.nb + (placesL f).length ≤ 1024
   ·go_upto_region 3 with (first | (go_at_call 8; refine (CLv.out _ (HTB.out.keep HK.out)).mono ?_; rintro e w3 ⟨rfl, k3⟩; clear l0 l1 l2; replace Bl := kept (Bl.out.keep k3 (by simp)); replace HK := kept (HK.out.and_then k3); obtain ⟨l0, l1, l2⟩ := Bl.out.c3; simp at l0 l1 l2; clear k3) | (go_at_call 16; refine (C16.out _ (HF.out.keep HK.out)).mono ?_; rintro e w3 ⟨rfl, k3⟩; clear l0 l1 l2; replace Bl := kept (Bl.out.keep k3 (by simp)); replace HK := kept (HK.out.and_then k3); obtain ⟨l0, l1, l2⟩ := Bl.out.c3; simp at l0 l1 l2; clear k3))
    go_upto_region 4 with (first | (go_at_call 24; refine (C24x.out _ (HTB.out.keep HK.out) (HF.out.keep HK.out)).mono ?_; rintro e w3 ⟨hmk, k3⟩; obtain ⟨cg, rfl, hcg, hpg⟩ : ∃ c : FuncM, e = .returned (.tuple #[c.val, .int .i64 0]) ∧ FuncAt w3 c ∧ ProgS (madeI f) f c := by { rcases hmk with ⟨h, -⟩ | ⟨-, h, -⟩ | ⟨-, -, h⟩; (exact absurd hT h); (exact absurd hN h); (exact h) }; obtain ⟨s0, t0, s1, t1, s2, t2, -, -, -, hvg, -, HCG, -, -, -, -, -, -⟩ := fopen hcg; rw [hvg]; have HPG := kept hpg; have HVG := kept hvg; clear hmk C24x hcg hpg hvg; clear l0 l1 l2; replace Bl := kept (Bl.out.keep k3 (by simp)); replace HK := kept (HK.out.and_then k3); obtain ⟨l0, l1, l2⟩ := Bl.out.c3; simp at l0 l1 l2; clear k3))
    have HW4 := kept ((Keeps.refl w3 []).alloc (.cells #[.slice s0 cg.nv t0, .slice s1 cg.np t1, .slice s2 cg.nb t2] 26))
    clear l0 l1 l2
    have bmx := Blk.new w3 26 #[.slice s0 cg.nv t0, .slice s1 cg.np t1, .slice s2 cg.nb t2]
    have k3 : Keeps w3 (w3.alloc (.cells #[.slice s0 cg.nv t0, .slice s1 cg.np t1, .slice s2 cg.nb t2] 26)) [] := (Keeps.refl w3 []).alloc _
    replace Bl := kept (Bl.out.keep k3 (by simp))
    replace HK := kept (HK.out.and_then k3)
    have Bg := kept bmx
    clear k3 bmx
    generalize w3.alloc (.cells #[.slice s0 cg.nv t0, .slice s1 cg.np t1, .slice s2 cg.nb t2] 26) = Wg at *
    obtain ⟨l0, l1, l2⟩ := Bl.out.c3
    obtain ⟨g0, g1, g2⟩ := Bg.out.c3
    simp at l0 l1 l2 g0 g1 g2
    have HGK := kept HW4.out
    clear HW4
    go_upto_region 6 with (first | (go_at_call 9; refine (C9.out _ (HTB.out.keep HK.out) (HF.out.keep HK.out)).mono ?_; rintro e w3 ⟨rfl, k3⟩; clear l0 l1 l2 g0 g1 g2; replace Bl := kept (Bl.out.keep k3 (by simp)); replace Bg := kept (Bg.out.keep k3 (by simp)); replace HK := kept (HK.out.and_then k3); replace HGK := kept (HGK.out.and_then k3); obtain ⟨l0, l1, l2⟩ := Bl.out.c3; obtain ⟨g0, g1, g2⟩ := Bg.out.c3; simp at l0 l1 l2 g0 g1 g2; clear k3))
    go_upto_region 7 with (first | (go_at_call 30; refine (C30y.out _ (HF.out.keep HK.out)).mono ?_; rintro e w3 ⟨⟨cw, rfl, hcw, hps⟩, k3⟩; obtain ⟨u0, v0, u1, v1, u2, v2, -, -, -, hvw, -, HCW, -, -, -, -, -, -⟩ := fopen hcw; rw [hvw]; have HPW := kept hps; have HVW := kept hvw; clear hcw hps hvw C30y; clear l0 l1 l2 g0 g1 g2; replace Bl := kept (Bl.out.keep k3 (by simp)); replace Bg := kept (Bg.out.keep k3 (by simp)); replace HK := kept (HK.out.and_then k3); replace HGK := kept (HGK.out.and_then k3); obtain ⟨l0, l1, l2⟩ := Bl.out.c3; obtain ⟨g0, g1, g2⟩ := Bg.out.c3; simp at l0 l1 l2 g0 g1 g2; clear k3))
    have HW3 := kept ((Keeps.refl w3 []).alloc (.cells #[.slice u0 cw.nv v0, .slice u1 cw.np v1, .slice u2 cw.nb v2] 26))
    replace HGK := kept (HGK.out.and_then HW3.out)
    clear l0 l1 l2 g0 g1 g2
    have bmx := Blk.new w3 26 #[.slice u0 cw.nv v0, .slice u1 cw.np v1, .slice u2 cw.nb v2]
    have k3 : Keeps w3 (w3.alloc (.cells #[.slice u0 cw.nv v0, .slice u1 cw.np v1, .slice u2 cw.nb v2] 26)) [] := (Keeps.refl w3 []).alloc _
    replace Bl := kept (Bl.out.keep k3 (by simp))
    replace Bg := kept (Bg.out.keep k3 (by simp))
    replace HK := kept (HK.out.and_then k3)
    have Bk := kept bmx
    clear k3 bmx
    generalize w3.alloc (.cells #[.slice u0 cw.nv v0, .slice u1 cw.np v1, .slice u2 cw.nb v2] 26) = Wk at *
    obtain ⟨l0, l1, l2⟩ := Bl.out.c3
    obtain ⟨g0, g1, g2⟩ := Bg.out.c3
    obtain ⟨k0, k1, k2⟩ := Bk.out.c3
    simp at l0 l1 l2 g0 g1 g2 k0 k1 k2
    have HWK := kept HW3.out
    clear HW3
    have hsh : shapedB cw = true := by rw [made_shaped HT.out HPW.out]; simpa using hN
    have hsg : shapedB cg = true := by rw [made_shaped HT.out HPG.out]; simpa using hN
    have C31 := kept (fun W h1 (h2 : FuncAt W cw) => shaped31_any cw W h1 h2 (made_few HFB.out HPW.out))
    have C32 := kept (fun W (h1 : FuncAt W cg) (h2 : FuncAt W cw) => same32_any cg cw W h1 h2 (progS_two HPG.out HPW.out))
    have C18 := kept (fun W h1 (h2 : FuncAt W cg) => guarded18_any cg W h1 h2 (made_few HFB.out HPG.out))
    rw [hsh, HVW.out] at C31
    rw [HVG.out, HVW.out] at C32
    rw [made_guardedB HT.out HPG.out hsg, HVG.out] at C18
    clear hsh hsg hN hT
    go_wp2_with (first | (go_at_call 31; refine (C31.out _ (HTB.out.keep HK.out) (HCW.out.keep HWK.out)).mono ?_; rintro e w3 ⟨rfl, k3⟩; clear l0 l1 l2 g0 g1 g2 k0 k1 k2; replace Bl := kept (Bl.out.keep k3 (by simp)); replace Bg := kept (Bg.out.keep k3 (by simp)); replace Bk := kept (Bk.out.keep k3 (by simp)); replace HK := kept (HK.out.and_then k3); replace HGK := kept (HGK.out.and_then k3); replace HWK := kept (HWK.out.and_then k3); obtain ⟨l0, l1, l2⟩ := Bl.out.c3; obtain ⟨g0, g1, g2⟩ := Bg.out.c3; obtain ⟨k0, k1, k2⟩ := Bk.out.c3; simp at l0 l1 l2 g0 g1 g2 k0 k1 k2; clear k3) | (go_at_call 32; refine (C32.out _ (HCG.out.keep HGK.out) (HCW.out.keep HWK.out)).mono ?_; rintro e w3 ⟨rfl, k3⟩; clear l0 l1 l2 g0 g1 g2 k0 k1 k2; replace Bl := kept (Bl.out.keep k3 (by simp)); replace Bg := kept (Bg.out.keep k3 (by simp)); replace Bk := kept (Bk.out.keep k3 (by simp)); replace HK := kept (HK.out.and_then k3); replace HGK := kept (HGK.out.and_then k3); replace HWK := kept (HWK.out.and_then k3); obtain ⟨l0, l1, l2⟩ := Bl.out.c3; obtain ⟨g0, g1, g2⟩ := Bg.out.c3; obtain ⟨k0, k1, k2⟩ := Bk.out.c3; simp at l0 l1 l2 g0 g1 g2 k0 k1 k2; clear k3) | (go_at_call 18; refine (C18.out _ (HTB.out.keep HK.out) (HCG.out.keep HGK.out)).mono ?_; rintro e w3 ⟨rfl, k3⟩; clear l0 l1 l2 g0 g1 g2 k0 k1 k2; replace Bl := kept (Bl.out.keep k3 (by simp)); replace Bg := kept (Bg.out.keep k3 (by simp)); replace Bk := kept (Bk.out.keep k3 (by simp)); replace HK := kept (HK.out.and_then k3); replace HGK := kept (HGK.out.and_then k3); replace HWK := kept (HWK.out.and_then k3); obtain ⟨l0, l1, l2⟩ := Bl.out.c3; obtain ⟨g0, g1, g2⟩ := Bg.out.c3; obtain ⟨k0, k1, k2⟩ := Bk.out.c3; simp at l0 l1 l2 g0 g1 g2 k0 k1 k2; clear k3))
    go_ret
    exact ⟨rfl, HK.out⟩
   ·go_upto_region 3 with (first | (go_at_call 8; refine (CLv.out _ (HTB.out.keep HK.out)).mono ?_; rintro e w3 ⟨rfl, k3⟩; clear l0 l1 l2; replace Bl := kept (Bl.out.keep k3 (by simp)); replace HK := kept (HK.out.and_then k3); obtain ⟨l0, l1, l2⟩ := Bl.out.c3; simp at l0 l1 l2; clear k3) | (go_at_call 16; refine (C16.out _ (HF.out.keep HK.out)).mono ?_; rintro e w3 ⟨rfl, k3⟩; clear l0 l1 l2; replace Bl := kept (Bl.out.keep k3 (by simp)); replace HK := kept (HK.out.and_then k3); obtain ⟨l0, l1, l2⟩ := Bl.out.c3; simp at l0 l1 l2; clear k3))
    go_upto_region 4 with (first | (go_at_call 24; refine (C24x.out _ (HTB.out.keep HK.out) (HF.out.keep HK.out)).mono ?_; rintro e w3 ⟨hmk, k3⟩; obtain ⟨-, -, rfl⟩ : typedE f = 0 ∧ ¬ phT f f.nb + inT f f.nb + (placesL f).length ≤ 1024 ∧ e = _ := by { rcases hmk with ⟨h, -⟩ | h | ⟨-, h, -⟩; (exact absurd hT h); (exact h); (exact absurd h hN) }; clear hmk C24x; clear l0 l1 l2; replace Bl := kept (Bl.out.keep k3 (by simp)); replace HK := kept (HK.out.and_then k3); obtain ⟨l0, l1, l2⟩ := Bl.out.c3; simp at l0 l1 l2; clear k3))
    clear l0 l1 l2
    have bmx := Blk.new w3 26 #[.slice none 0 0, .slice none 0 0, .slice none 0 0]
    have k3 : Keeps w3 (w3.alloc (.cells #[.slice none 0 0, .slice none 0 0, .slice none 0 0] 26)) [] := (Keeps.refl w3 []).alloc _
    replace Bl := kept (Bl.out.keep k3 (by simp))
    replace HK := kept (HK.out.and_then k3)
    have Bg := kept bmx
    clear k3 bmx
    generalize w3.alloc (.cells #[.slice none 0 0, .slice none 0 0, .slice none 0 0] 26) = Wg at *
    obtain ⟨l0, l1, l2⟩ := Bl.out.c3
    obtain ⟨g0, g1, g2⟩ := Bg.out.c3
    simp at l0 l1 l2 g0 g1 g2
    go_upto_region 6 with (first | (go_at_call 9; refine (C9.out _ (HTB.out.keep HK.out) (HF.out.keep HK.out)).mono ?_; rintro e w3 ⟨rfl, k3⟩; clear l0 l1 l2 g0 g1 g2; replace Bl := kept (Bl.out.keep k3 (by simp)); replace Bg := kept (Bg.out.keep k3 (by simp)); replace HK := kept (HK.out.and_then k3); obtain ⟨l0, l1, l2⟩ := Bl.out.c3; obtain ⟨g0, g1, g2⟩ := Bg.out.c3; simp at l0 l1 l2 g0 g1 g2; clear k3))
    go_upto_region 7 with (first | (go_at_call 30; refine (C30y.out _ (HF.out.keep HK.out)).mono ?_; rintro e w3 ⟨⟨cw, rfl, hcw, hps⟩, k3⟩; obtain ⟨u0, v0, u1, v1, u2, v2, -, -, -, hvw, -, HCW, -, -, -, -, -, -⟩ := fopen hcw; rw [hvw]; have HPW := kept hps; have HVW := kept hvw; clear hcw hps hvw C30y; clear l0 l1 l2 g0 g1 g2; replace Bl := kept (Bl.out.keep k3 (by simp)); replace Bg := kept (Bg.out.keep k3 (by simp)); replace HK := kept (HK.out.and_then k3); obtain ⟨l0, l1, l2⟩ := Bl.out.c3; obtain ⟨g0, g1, g2⟩ := Bg.out.c3; simp at l0 l1 l2 g0 g1 g2; clear k3))
    have HW3 := kept ((Keeps.refl w3 []).alloc (.cells #[.slice u0 cw.nv v0, .slice u1 cw.np v1, .slice u2 cw.nb v2] 26))
    clear l0 l1 l2 g0 g1 g2
    have bmx := Blk.new w3 26 #[.slice u0 cw.nv v0, .slice u1 cw.np v1, .slice u2 cw.nb v2]
    have k3 : Keeps w3 (w3.alloc (.cells #[.slice u0 cw.nv v0, .slice u1 cw.np v1, .slice u2 cw.nb v2] 26)) [] := (Keeps.refl w3 []).alloc _
    replace Bl := kept (Bl.out.keep k3 (by simp))
    replace Bg := kept (Bg.out.keep k3 (by simp))
    replace HK := kept (HK.out.and_then k3)
    have Bk := kept bmx
    clear k3 bmx
    generalize w3.alloc (.cells #[.slice u0 cw.nv v0, .slice u1 cw.np v1, .slice u2 cw.nb v2] 26) = Wk at *
    obtain ⟨l0, l1, l2⟩ := Bl.out.c3
    obtain ⟨g0, g1, g2⟩ := Bg.out.c3
    obtain ⟨k0, k1, k2⟩ := Bk.out.c3
    simp at l0 l1 l2 g0 g1 g2 k0 k1 k2
    have HWK := kept HW3.out
    clear HW3
    have C31 := kept (fun W h1 (h2 : FuncAt W cw) => shaped31_any cw W h1 h2 (made_few HFB.out HPW.out))
    rw [show shapedB cw = false by rw [made_shaped HT.out HPW.out]; simpa using hN] at C31
    rw [HVW.out] at C31
    clear hN hT
    go_wp2_with (first | (go_at_call 31; refine (C31.out _ (HTB.out.keep HK.out) (HCW.out.keep HWK.out)).mono ?_; rintro e w3 ⟨rfl, k3⟩; replace HWK := kept (HWK.out.and_then k3); clear l0 l1 l2 g0 g1 g2 k0 k1 k2; replace Bl := kept (Bl.out.keep k3 (by simp)); replace Bg := kept (Bg.out.keep k3 (by simp)); replace Bk := kept (Bk.out.keep k3 (by simp)); replace HK := kept (HK.out.and_then k3); obtain ⟨l0, l1, l2⟩ := Bl.out.c3; obtain ⟨g0, g1, g2⟩ := Bg.out.c3; obtain ⟨k0, k1, k2⟩ := Bk.out.c3; simp at l0 l1 l2 g0 g1 g2 k0 k1 k2; clear k3))
    go_ret
    exact ⟨rfl, HK.out⟩
  ·have ht10 : typed10 f = false := by
    cases h : typed10 f with
    | false => rfl
    | true => exact absurd (typed10_iff.1 h).2 hT
   rw [ht10] at C9
   clear ht10
   go_upto_region 3 with (first | (go_at_call 8; refine (CLv.out _ (HTB.out.keep HK.out)).mono ?_; rintro e w3 ⟨rfl, k3⟩; clear l0 l1 l2; replace Bl := kept (Bl.out.keep k3 (by simp)); replace HK := kept (HK.out.and_then k3); obtain ⟨l0, l1, l2⟩ := Bl.out.c3; simp at l0 l1 l2; clear k3) | (go_at_call 16; refine (C16.out _ (HF.out.keep HK.out)).mono ?_; rintro e w3 ⟨rfl, k3⟩; clear l0 l1 l2; replace Bl := kept (Bl.out.keep k3 (by simp)); replace HK := kept (HK.out.and_then k3); obtain ⟨l0, l1, l2⟩ := Bl.out.c3; simp at l0 l1 l2; clear k3))
   go_upto_region 4 with (first | (go_at_call 24; refine (C24x.out _ (HTB.out.keep HK.out) (HF.out.keep HK.out)).mono ?_; rintro e w3 ⟨hmk, k3⟩; obtain ⟨-, rfl⟩ : ¬ typedE f = 0 ∧ e = _ := by { rcases hmk with h | ⟨h, -⟩ | ⟨h, -⟩; (exact h); (exact absurd h hT); (exact absurd h hT) }; clear hmk C24x; clear l0 l1 l2; replace Bl := kept (Bl.out.keep k3 (by simp)); replace HK := kept (HK.out.and_then k3); obtain ⟨l0, l1, l2⟩ := Bl.out.c3; simp at l0 l1 l2; clear k3))
   clear l0 l1 l2
   have bmx := Blk.new w3 26 #[.slice none 0 0, .slice none 0 0, .slice none 0 0]
   have k3 : Keeps w3 (w3.alloc (.cells #[.slice none 0 0, .slice none 0 0, .slice none 0 0] 26)) [] := (Keeps.refl w3 []).alloc _
   replace Bl := kept (Bl.out.keep k3 (by simp))
   replace HK := kept (HK.out.and_then k3)
   have Bg := kept bmx
   clear k3 bmx
   generalize w3.alloc (.cells #[.slice none 0 0, .slice none 0 0, .slice none 0 0] 26) = Wg at *
   obtain ⟨l0, l1, l2⟩ := Bl.out.c3
   obtain ⟨g0, g1, g2⟩ := Bg.out.c3
   simp at l0 l1 l2 g0 g1 g2
   clear hT
   go_wp2_with (first | (go_at_call 9; refine (C9.out _ (HTB.out.keep HK.out) (HF.out.keep HK.out)).mono ?_; rintro e w3 ⟨rfl, k3⟩; clear l0 l1 l2 g0 g1 g2; replace Bl := kept (Bl.out.keep k3 (by simp)); replace Bg := kept (Bg.out.keep k3 (by simp)); replace HK := kept (HK.out.and_then k3); obtain ⟨l0, l1, l2⟩ := Bl.out.c3; obtain ⟨g0, g1, g2⟩ := Bg.out.c3; simp at l0 l1 l2 g0 g1 g2; clear k3))
   go_ret
   exact ⟨rfl, HK.out⟩
end Go.Proofs.YtjllbchfojonhaaGreatDoor
