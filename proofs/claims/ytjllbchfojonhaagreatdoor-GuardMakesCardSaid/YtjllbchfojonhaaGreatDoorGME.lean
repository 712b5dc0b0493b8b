/- A program with the checks that it lacks (guard.Make); contract. -/
import Derived.Test.YtjllbchfojonhaaGreatDoorGM1
import Derived.Test.YtjllbchfojonhaaGreatDoorCQ
import Derived.OwnWalk
import Derived.BigQuiet
import Derived.Deep.CutBlock
import Derived.Deep.Cut
namespace Go.Proofs.YtjllbchfojonhaaGreatDoor
open Go.RowKit Go.Shelf Go.Lib
set_option linter.unusedVariables false
set_option linter.unusedSimpArgs false
attribute [local go_sem] Oper.semAt_some

set_option maxRecDepth 100000 in
set_option maxHeartbeats 200000000 in
theorem make24_no (f : FuncM) (w : World) (ht : Tabs w) (hf : FuncAt w f) (hfew : FewP f) (hcb : CopyB f) (hT : ¬ typedE f = 0) : Calls Tryz.prog 24 #[f.val] w fun e w' => MakeRet f w' e ∧ Keeps w w' [] := by
 have hT3 : typedE f = 3 := by
  unfold typedE at hT ⊢
  split
  ·rename_i h; rw [if_pos h] at hT; exact absurd rfl hT
  ·rfl
 have HTB := kept ht
 have HFW := kept hfew
 have CT := kept (fun W h1 (h2 : FuncAt W f) => typedF_any f W h1 h2 hfew)
 have CPL := kept (fun W h1 (h2 : FuncAt W f) => places_any f W h1 h2 hfew)
 have CCN := kept (fun W (h2 : FuncAt W f) => count_any f W h2 hfew)
 have CCP := kept (fun W (h2 : FuncAt W f) => copy43_any f W h2 hcb)
 have hnb40 := hfew.nb
 have hsum := sum_le hfew f.nb (Nat.le_refl _)
 obtain ⟨a0, c0, a1, c1, a2, c2, e0, e1, e2, hval, h1, HF, HC0, HC1, HC2, HNV, HNP, HNB⟩ := fopen hf
 rw [hval] at CT CPL CCN CCP
 rw [hval]
 have HDEF := kept (show ∀ w' e, _ → MakeRet f w' e from fun w' e h => h)
 clear hval h1 e0 e1 e2 hf HC0 HC1 HC2 ht hfew hcb
 rw [hT3] at CT
 have HT := kept hT
 clear hT hT3 hsum
 have hk0 : Keeps w (w.alloc (.cells #[.slice a0 f.nv c0, .slice a1 f.np c1, .slice a2 f.nb c2] 26)) [] := (Keeps.refl _ []).alloc _
 have bb0 := Blk.new w 26 #[.slice a0 f.nv c0, .slice a1 f.np c1, .slice a2 f.nb c2]
 have hk1 : Keeps (w.alloc (.cells #[.slice a0 f.nv c0, .slice a1 f.np c1, .slice a2 f.nb c2] 26)) ((w.alloc (.cells #[.slice a0 f.nv c0, .slice a1 f.np c1, .slice a2 f.nb c2] 26)).alloc (.cells #[.slice none 0 0, .slice none 0 0, .slice none 0 0] 26)) [] := (Keeps.refl _ []).alloc _
 have bb1 := Blk.new (w.alloc (.cells #[.slice a0 f.nv c0, .slice a1 f.np c1, .slice a2 f.nb c2] 26)) 26 #[.slice none 0 0, .slice none 0 0, .slice none 0 0]
 rw [show (w.alloc (.cells #[.slice a0 f.nv c0, .slice a1 f.np c1, .slice a2 f.nb c2] 26)).heap.size = w.heap.size + 1 by show (Array.push _ _).size = _; simp [Array.size_push]] at bb1
 have Bl := kept (bb0.keep hk1 (by simp))
 have Br := kept bb1
 have HK := kept (hk0.and_then hk1)
 obtain ⟨l0, l1, l2⟩ := Bl.out.c3
 obtain ⟨r0, r1, r2⟩ := Br.out.c3
 simp at l0 l1 l2 r0 r1 r2
 clear hk0 hk1 bb0 bb1
 go_enter Tryz.func24, Tryz.ntmps24
 go_upto_region 2 with (first | (go_at_call 33; refine (CT.out _ (HTB.out.keep HK.out) (HF.out.keep HK.out)).mono ?_; rintro e w3 ⟨rfl, k3⟩; clear l0 l1 l2 r0 r1 r2; replace Bl := kept (Bl.out.keep k3 (by simp)); replace Br := kept (Br.out.keep k3 (by simp)); replace HK := kept (HK.out.and_then k3); obtain ⟨l0, l1, l2⟩ := Bl.out.c3; obtain ⟨r0, r1, r2⟩ := Br.out.c3; simp at l0 l1 l2 r0 r1 r2; clear k3))
 have f0 := Br.out.frozen 0
 have f1 := Br.out.frozen 1
 have f2 := Br.out.frozen 2
 go_wp2
 clear l0 l1 l2 r0 r1 r2
 clear f0 f1 f2
 have kF : Keeps w3 (((w3.setCell ⟨w.heap.size + 1, 0, none⟩ (.slice none 0 0)).setCell ⟨w.heap.size + 1, 1, none⟩ (.slice none 0 0)).setCell ⟨w.heap.size + 1, 2, none⟩ (.slice none 0 0)) [w.heap.size + 1] := ((((Keeps.refl w3 _).setCell (.inl (by simp)) _).setCell (.inl (by simp)) _).setCell (.inl (by simp)) _)
 have BrF := ((Br.out.set_ 0 (.slice none 0 0)).set_ 1 (.slice none 0 0)).set_ 2 (.slice none 0 0)
 generalize (((w3.setCell ⟨w.heap.size + 1, 0, none⟩ (.slice none 0 0)).setCell ⟨w.heap.size + 1, 1, none⟩ (.slice none 0 0)).setCell ⟨w.heap.size + 1, 2, none⟩ (.slice none 0 0)) = Wf at *
 obtain ⟨r0, r1, r2⟩ := BrF.c3
 simp at r0 r1 r2
 have HKF : Keeps w Wf [] := HK.out.trans kF |>.mono (fun x hx => by simp at hx; subst hx; exact .inr (by omega))
 exact bodyPost_ret (v := .tuple #[.agg #[.slice none 0 0, .slice none 0 0, .slice none 0 0], .int .i64 3]) (by simp [results, Tryz.results24, go_sem, r0, r1, r2]) rfl ⟨.inl ⟨HT.out, rfl⟩, HKF⟩

set_option maxRecDepth 100000 in
set_option maxHeartbeats 200000000 in
theorem make24_many (f : FuncM) (w : World) (ht : Tabs w) (hf : FuncAt w f) (hfew : FewP f) (hcb : CopyB f) (hT : typedE f = 0) (hN : ¬ phT f f.nb + inT f f.nb + (placesL f).length ≤ 1024) : Calls Tryz.prog 24 #[f.val] w fun e w' => MakeRet f w' e ∧ Keeps w w' [] := by
 have HTB := kept ht
 have HFW := kept hfew
 have CT := kept (fun W h1 (h2 : FuncAt W f) => typedF_any f W h1 h2 hfew)
 have CPL := kept (fun W h1 (h2 : FuncAt W f) => places_any f W h1 h2 hfew)
 have CCN := kept (fun W (h2 : FuncAt W f) => count_any f W h2 hfew)
 have CCP := kept (fun W (h2 : FuncAt W f) => copy43_any f W h2 hcb)
 have hnb40 := hfew.nb
 have hsum := sum_le hfew f.nb (Nat.le_refl _)
 obtain ⟨a0, c0, a1, c1, a2, c2, e0, e1, e2, hval, h1, HF, HC0, HC1, HC2, HNV, HNP, HNB⟩ := fopen hf
 rw [hval] at CT CPL CCN CCP
 rw [hval]
 have HDEF := kept (show ∀ w' e, _ → MakeRet f w' e from fun w' e h => h)
 clear hval h1 e0 e1 e2 hf HC0 HC1 HC2 ht hfew hcb
 have hlen := (pl_ok hT HFW.out).len
 rw [hT] at CT
 have HT := kept hT
 have HN := kept hN
 clear hT
 obtain ⟨np0, hnp0⟩ : ∃ n, phT f f.nb = n := ⟨_, rfl⟩
 obtain ⟨ni0, hni0⟩ : ∃ n, inT f f.nb = n := ⟨_, rfl⟩
 obtain ⟨nl0, hnl0⟩ : ∃ n, (placesL f).length = n := ⟨_, rfl⟩
 rw [hnp0, hni0, hnl0] at hN
 rw [hnp0, hni0] at CCN hsum
 rw [hnl0] at hlen
 have HNL := kept hnl0
 have hbig : (1024 : Int) < (np0 : Int) + (ni0 : Int) + (nl0 : Int) := by omega
 clear hN hnp0 hni0 hnl0
 have hk0 : Keeps w (w.alloc (.cells #[.slice a0 f.nv c0, .slice a1 f.np c1, .slice a2 f.nb c2] 26)) [] := (Keeps.refl _ []).alloc _
 have bb0 := Blk.new w 26 #[.slice a0 f.nv c0, .slice a1 f.np c1, .slice a2 f.nb c2]
 have hk1 : Keeps (w.alloc (.cells #[.slice a0 f.nv c0, .slice a1 f.np c1, .slice a2 f.nb c2] 26)) ((w.alloc (.cells #[.slice a0 f.nv c0, .slice a1 f.np c1, .slice a2 f.nb c2] 26)).alloc (.cells #[.slice none 0 0, .slice none 0 0, .slice none 0 0] 26)) [] := (Keeps.refl _ []).alloc _
 have bb1 := Blk.new (w.alloc (.cells #[.slice a0 f.nv c0, .slice a1 f.np c1, .slice a2 f.nb c2] 26)) 26 #[.slice none 0 0, .slice none 0 0, .slice none 0 0]
 rw [show (w.alloc (.cells #[.slice a0 f.nv c0, .slice a1 f.np c1, .slice a2 f.nb c2] 26)).heap.size = w.heap.size + 1 by show (Array.push _ _).size = _; simp [Array.size_push]] at bb1
 have Bl := kept (bb0.keep hk1 (by simp))
 have Br := kept bb1
 have HK := kept (hk0.and_then hk1)
 obtain ⟨l0, l1, l2⟩ := Bl.out.c3
 obtain ⟨r0, r1, r2⟩ := Br.out.c3
 simp at l0 l1 l2 r0 r1 r2
 clear hk0 hk1 bb0 bb1
 go_enter Tryz.func24, Tryz.ntmps24
 go_upto_region 6 with (first | (go_at_call 33; refine (CT.out _ (HTB.out.keep HK.out) (HF.out.keep HK.out)).mono ?_; rintro e w3 ⟨rfl, k3⟩; clear l0 l1 l2 r0 r1 r2; replace Bl := kept (Bl.out.keep k3 (by simp)); replace Br := kept (Br.out.keep k3 (by simp)); replace HK := kept (HK.out.and_then k3); obtain ⟨l0, l1, l2⟩ := Bl.out.c3; obtain ⟨r0, r1, r2⟩ := Br.out.c3; simp at l0 l1 l2 r0 r1 r2; clear k3) | (go_at_call 17; refine (CPL.out _ (HTB.out.keep HK.out) (HF.out.keep HK.out)).mono ?_; rintro e w3 ⟨⟨lv, rfl, hlv⟩, k3⟩; obtain ⟨la, lc, rfl, -, -, -⟩ := Row.open_ hlv; rw [HNL.out] at hlv ⊢; have HLV := kept hlv; clear hlv CPL; clear l0 l1 l2 r0 r1 r2; replace Bl := kept (Bl.out.keep k3 (by simp)); replace Br := kept (Br.out.keep k3 (by simp)); replace HK := kept (HK.out.and_then k3); obtain ⟨l0, l1, l2⟩ := Bl.out.c3; obtain ⟨r0, r1, r2⟩ := Br.out.c3; simp at l0 l1 l2 r0 r1 r2; clear k3) | (go_at_call 42; refine (CCN.out _ (HF.out.keep HK.out)).mono ?_; rintro e w3 ⟨rfl, k3⟩; replace HLV := kept (Row.keep HLV.out k3); clear CCN; clear l0 l1 l2 r0 r1 r2; replace Bl := kept (Bl.out.keep k3 (by simp)); replace Br := kept (Br.out.keep k3 (by simp)); replace HK := kept (HK.out.and_then k3); obtain ⟨l0, l1, l2⟩ := Bl.out.c3; obtain ⟨r0, r1, r2⟩ := Br.out.c3; simp at l0 l1 l2 r0 r1 r2; clear k3))
 have f0 := Br.out.frozen 0
 have f1 := Br.out.frozen 1
 have f2 := Br.out.frozen 2
 go_wp2
 clear l0 l1 l2 r0 r1 r2
 clear f0 f1 f2
 have kF : Keeps w3 (((w3.setCell ⟨w.heap.size + 1, 0, none⟩ (.slice none 0 0)).setCell ⟨w.heap.size + 1, 1, none⟩ (.slice none 0 0)).setCell ⟨w.heap.size + 1, 2, none⟩ (.slice none 0 0)) [w.heap.size + 1] := ((((Keeps.refl w3 _).setCell (.inl (by simp)) _).setCell (.inl (by simp)) _).setCell (.inl (by simp)) _)
 have BrF := ((Br.out.set_ 0 (.slice none 0 0)).set_ 1 (.slice none 0 0)).set_ 2 (.slice none 0 0)
 generalize (((w3.setCell ⟨w.heap.size + 1, 0, none⟩ (.slice none 0 0)).setCell ⟨w.heap.size + 1, 1, none⟩ (.slice none 0 0)).setCell ⟨w.heap.size + 1, 2, none⟩ (.slice none 0 0)) = Wf at *
 obtain ⟨r0, r1, r2⟩ := BrF.c3
 simp at r0 r1 r2
 have HKF : Keeps w Wf [] := HK.out.trans kF |>.mono (fun x hx => by simp at hx; subst hx; exact .inr (by omega))
 exact bodyPost_ret (v := .tuple #[.agg #[.slice none 0 0, .slice none 0 0, .slice none 0 0], .int .i64 4]) (by simp [results, Tryz.results24, go_sem, r0, r1, r2]) rfl ⟨.inr (.inl ⟨HT.out, HN.out, rfl⟩), HKF⟩

theorem rf_frame {P : Program} {g : Operand} {ps : Array Tmp} {assign body : Code} {Q : Exit → Act → World → Prop} {a : Act} {w : World} (h : ∀ a0 : Act, a0 = a → (Code.rangeFunc g ps assign body).wp P Q a0 w) : (Code.rangeFunc g ps assign body).wp P Q a w := h a rfl
/-- a round's frame -/
def PutX (a0 : Act) (zs : List (Nat × Nat)) (x : Fin zs.length) (La : Nat) : Act := ((a0.put (some 42) (.int .i64 (x.1 : Int))).put (some 43) (.agg #[.int .i64 (zs[x.1]!.1 : Int), .int .i64 (zs[x.1]!.2 : Int)])).put (some 11) (.pointer (some ⟨La, 0, none⟩))

set_option maxRecDepth 100000 in
set_option maxHeartbeats 200000000 in
theorem make24_yes (f : FuncM) (w : World) (ht : Tabs w) (hf : FuncAt w f) (hfew : FewP f) (hcb : CopyB f) (hT : typedE f = 0) (hN : phT f f.nb + inT f f.nb + (placesL f).length ≤ 1024) : Calls Tryz.prog 24 #[f.val] w fun e w' => MakeRet f w' e ∧ Keeps w w' [] := by
 have HTB := kept ht
 have HFW := kept hfew
 have CT := kept (fun W h1 (h2 : FuncAt W f) => typedF_any f W h1 h2 hfew)
 have CPL := kept (fun W h1 (h2 : FuncAt W f) => places_any f W h1 h2 hfew)
 have CCN := kept (fun W (h2 : FuncAt W f) => count_any f W h2 hfew)
 have CCP := kept (fun W (h2 : FuncAt W f) => copy43_any f W h2 hcb)
 have hnb40 := hfew.nb
 have hsum := sum_le hfew f.nb (Nat.le_refl _)
 obtain ⟨a0, c0, a1, c1, a2, c2, e0, e1, e2, hval, h1, HF, HC0, HC1, HC2, HNV, HNP, HNB⟩ := fopen hf
 rw [hval] at CT CPL CCN CCP
 rw [hval]
 have HDEF := kept (show ∀ w' e, _ → MakeRet f w' e from fun w' e h => h)
 clear hval h1 e0 e1 e2 hf HC0 HC1 HC2 ht hfew hcb
 have hlen := (pl_ok hT HFW.out).len
 rw [hT] at CT
 have HT := kept hT
 have HN := kept hN
 clear hT
 obtain ⟨np0, hnp0⟩ : ∃ n, phT f f.nb = n := ⟨_, rfl⟩
 obtain ⟨ni0, hni0⟩ : ∃ n, inT f f.nb = n := ⟨_, rfl⟩
 obtain ⟨nl0, hnl0⟩ : ∃ n, (placesL f).length = n := ⟨_, rfl⟩
 rw [hnp0, hni0, hnl0] at hN
 rw [hnp0, hni0] at CCN hsum
 rw [hnl0] at hlen
 have HNL := kept hnl0
 have hN2 : ¬ (1024 : Int) < (np0 : Int) + (ni0 : Int) + (nl0 : Int) := by omega
 have HPO := kept (pl_ok HT.out HFW.out)
 have HZ4 := kept (show (placesL f).length ≤ 40000 by have h9 := lackTo_le f HFW.out f.nb (Nat.le_refl _); unfold placesL; rw [if_pos HT.out]; omega)
 clear hN hnp0 hni0 hnl0
 have hk0 : Keeps w (w.alloc (.cells #[.slice a0 f.nv c0, .slice a1 f.np c1, .slice a2 f.nb c2] 26)) [] := (Keeps.refl _ []).alloc _
 have bb0 := Blk.new w 26 #[.slice a0 f.nv c0, .slice a1 f.np c1, .slice a2 f.nb c2]
 have hk1 : Keeps (w.alloc (.cells #[.slice a0 f.nv c0, .slice a1 f.np c1, .slice a2 f.nb c2] 26)) ((w.alloc (.cells #[.slice a0 f.nv c0, .slice a1 f.np c1, .slice a2 f.nb c2] 26)).alloc (.cells #[.slice none 0 0, .slice none 0 0, .slice none 0 0] 26)) [] := (Keeps.refl _ []).alloc _
 have bb1 := Blk.new (w.alloc (.cells #[.slice a0 f.nv c0, .slice a1 f.np c1, .slice a2 f.nb c2] 26)) 26 #[.slice none 0 0, .slice none 0 0, .slice none 0 0]
 rw [show (w.alloc (.cells #[.slice a0 f.nv c0, .slice a1 f.np c1, .slice a2 f.nb c2] 26)).heap.size = w.heap.size + 1 by show (Array.push _ _).size = _; simp [Array.size_push]] at bb1
 have Bl := kept (bb0.keep hk1 (by simp))
 have Br := kept bb1
 have HK := kept (hk0.and_then hk1)
 obtain ⟨l0, l1, l2⟩ := Bl.out.c3
 obtain ⟨r0, r1, r2⟩ := Br.out.c3
 simp at l0 l1 l2 r0 r1 r2
 clear hk0 hk1 bb0 bb1
 refine (callsIn_wide (n := 5)).1 ?_
 refine callsIn_of_wp_marks Tryz.func24 rfl trivial ?_ rfl
 refine wpIn_wide.2 ?_
 simp only [Tryz.ntmps24, List.size_toArray, List.length_cons, List.length_nil, Nat.reduceAdd, Nat.reduceSub, Array.replicate_succ, Array.replicate_zero, List.push_toArray, List.append_toArray, List.nil_append, List.cons_append]
 go_upto_region 6 with (first | (go_at_call 33; refine (CT.out _ (HTB.out.keep HK.out) (HF.out.keep HK.out)).mono ?_; rintro e w3 ⟨rfl, k3⟩; clear l0 l1 l2 r0 r1 r2; replace Bl := kept (Bl.out.keep k3 (by simp)); replace Br := kept (Br.out.keep k3 (by simp)); replace HK := kept (HK.out.and_then k3); obtain ⟨l0, l1, l2⟩ := Bl.out.c3; obtain ⟨r0, r1, r2⟩ := Br.out.c3; simp at l0 l1 l2 r0 r1 r2; clear k3) | (go_at_call 17; refine (CPL.out _ (HTB.out.keep HK.out) (HF.out.keep HK.out)).mono ?_; rintro e w3 ⟨⟨lv, rfl, hlv⟩, k3⟩; obtain ⟨la, lc, rfl, -, -, -⟩ := Row.open_ hlv; rw [HNL.out] at hlv ⊢; have HLV := kept hlv; clear hlv CPL; clear l0 l1 l2 r0 r1 r2; replace Bl := kept (Bl.out.keep k3 (by simp)); replace Br := kept (Br.out.keep k3 (by simp)); replace HK := kept (HK.out.and_then k3); obtain ⟨l0, l1, l2⟩ := Bl.out.c3; obtain ⟨r0, r1, r2⟩ := Br.out.c3; simp at l0 l1 l2 r0 r1 r2; clear k3) | (go_at_call 42; refine (CCN.out _ (HF.out.keep HK.out)).mono ?_; rintro e w3 ⟨rfl, k3⟩; replace HLV := kept (Row.keep HLV.out k3); clear CCN; clear l0 l1 l2 r0 r1 r2; replace Bl := kept (Bl.out.keep k3 (by simp)); replace Br := kept (Br.out.keep k3 (by simp)); replace HK := kept (HK.out.and_then k3); obtain ⟨l0, l1, l2⟩ := Bl.out.c3; obtain ⟨r0, r1, r2⟩ := Br.out.c3; simp at l0 l1 l2 r0 r1 r2; clear k3))
 go_upto_region 8 with (fail)
 obtain ⟨W4, hW4⟩ : ∃ W4 : World, W4 = w3 := ⟨_, rfl⟩
 subst hW4
 have HL4 := HLV
 clear HLV
 have HWS4 := kept (show w.heap.size + 1 < W4.heap.size from Br.out.lt)
 go_upto_region 9 with (first | (go_at_call 43; refine (CCP.out _ (HF.out.keep HK.out)).mono ?_; rintro e w5 ⟨⟨cc, rfl, hcr⟩, k3⟩; obtain ⟨va, vc, ve, -, -⟩ := own_form hcr.vars; obtain ⟨pa, pc, pe, -, -⟩ := own_form hcr.pars; obtain ⟨ba, bc, be, -, -⟩ := own_form hcr.rows; have hcv : cc.val = .agg #[.slice va cc.nv vc, .slice pa cc.np pc, .slice ba cc.nb bc] := (by unfold FuncM.val; rw [ve, pe, be]); rw [hcv]; have HCR := kept hcr; have HVE := kept (And.intro ve (And.intro pe be)); have HCV := kept hcv; clear hcr ve pe be hcv CCP; have K45 := kept k3; clear l0 l1 l2 r0 r1 r2; replace Bl := kept (Bl.out.keep k3 (by simp)); replace Br := kept (Br.out.keep k3 (by simp)); replace HK := kept (HK.out.and_then k3); obtain ⟨l0, l1, l2⟩ := Bl.out.c3; obtain ⟨r0, r1, r2⟩ := Br.out.c3; simp at l0 l1 l2 r0 r1 r2; clear k3))
 clear l0 l1 l2 r0 r1 r2
 have k6 : Keeps w5 (w5.alloc (.cells #[.slice va cc.nv vc, .slice pa cc.np pc, .slice ba cc.nb bc] 26)) [] := (Keeps.refl _ []).alloc _
 have B9 := kept (Blk.new w5 26 #[.slice va cc.nv vc, .slice pa cc.np pc, .slice ba cc.nb bc])
 replace K45 := kept (K45.out.and_then k6)
 replace Bl := kept (Bl.out.keep k6 (by simp))
 replace Br := kept (Br.out.keep k6 (by simp))
 replace HK := kept (HK.out.and_then k6)
 have K56 := kept k6
 clear k6
 generalize w5.alloc (.cells #[.slice va cc.nv vc, .slice pa cc.np pc, .slice ba cc.nb bc] 26) = W6 at *
 generalize w5.heap.size = L9 at *
 go_wp2_with (first | (go_at_call 44; refine (back44_any _ _ _ _).mono ?_; rintro e w7 ⟨rfl, rfl⟩))
 have k7 : Keeps W6 (W6.alloc (.cells #[.slice la nl0 lc] 51)) [] := (Keeps.refl _ []).alloc _
 have BS := kept (Blk.new W6 51 #[.slice la nl0 lc])
 replace B9 := kept (B9.out.keep k7 (by simp))
 replace K45 := kept (K45.out.and_then k7)
 replace K56 := kept (K56.out.and_then k7)
 replace Br := kept (Br.out.keep k7 (by simp))
 replace HK := kept (HK.out.and_then k7)
 clear k7 Bl
 generalize W6.alloc (.cells #[.slice la nl0 lc] 51) = WR at *
 generalize W6.heap.size = Lb at *
 have hzl : (placesL f).length ≤ 1000000 := by have := HPO.out.len; omega
 have hI0 : GmR w W4.heap.size (w.heap.size + 1) L9 f cc (placesL f) [] WR := ⟨⟨cc, rfl, rfl, rfl, GmI.of_copy HCR.out (fun T => tk_keeps K56.out) (by rw [HVE.out.1, HVE.out.2.1, HVE.out.2.2]; exact B9.out)⟩, Br.out, HK.out.below_, K45.out.size⟩
 have HI0 := kept hI0
 have HZL := kept hzl
 clear hI0 hzl Br B9
 have HSZ := kept (show w.heap.size ≤ WR.heap.size from HK.out.size)
 have HS4 := kept (show W4.heap.size ≤ WR.heap.size from K45.out.size)
 have HW4 := kept (show w.heap.size + 1 < W4.heap.size from HWS4.out)
 refine rf_frame fun a0 ha0 => ?_
 refine (wpIn_wide (n := 5)).1 ?_
 refine' wpIn_rangeFunc_ownH rfl (by decide) (gf := 72) (lb := #[.pointer (some ⟨Lb, 0, none⟩)]) (by rw [ha0]; rfl) trivial (enters_of Tryz.func72 (by kernel_rfl) rfl)
  (back_stops Fence.wide 4 trivial rfl (by decide) Lb W4.heap.size (.slice la nl0 lc) (placesL f) HZL.out WR W4 HL4.out rfl (K45.out.below (Nat.le_refl _) (by simp)) BS.out) (fun h k => BwK.trans h k) (fun W l o o' hl h ho hw => bwK_b HS4.out W l o o' hl h ho hw) (Below.refl _ _) (fun _ => rfl)
  (GmR w W4.heap.size (w.heap.size + 1) L9 f cc (placesL f)) (fun _ _ _ => False) (GmR.own HSZ.out) (fun _ _ _ _ _ h => h.elim) HI0.out (fun x a' W' => ∃ La, a' = PutX a0 (placesL f) x La ∧ W4.heap.size ≤ La ∧ Blk W' La 34 #[.int .i64 ((placesL f)[x.1]!.1 : Int), .int .i64 ((placesL f)[x.1]!.2 : Int)]) ?hax ?assign ?body ?done ?stop
 case hax =>
  rintro x a' u A C row ⟨La, e, h1, h2⟩ hg hr
  exact ⟨La, e, h1, tk_other hg (fun r e => (hr r e).2) 34 _ _ h2⟩
 case stop =>
  rintro D q pre W hD _ h
  exact h.elim
 case assign =>
  intro l pre x W K hI hK
  subst ha0
  obtain ⟨b, hbe⟩ : ∃ b, (placesL f)[x.1]!.1 = b := ⟨_, rfl⟩
  obtain ⟨i, hie⟩ : ∃ i, (placesL f)[x.1]!.2 = i := ⟨_, rfl⟩
  simp only [PutX, bwE, hbe, hie] at hK ⊢
  clear hbe hie
  gi_wp2
  refine hK _ _ ((KeepsOthers.alloc W _).from _) ⟨(Below.refl W4.heap.size W).alloc hI.s _, tk_keeps ((Keeps.refl W []).alloc _)⟩ ((GmR.own HSZ.out).alloc _ hI) ⟨W.heap.size, ?_, hI.s, Blk.new W 34 _⟩
  rfl
 case body =>
  rintro l pre x a' W hl _ hI ⟨La, rfl, hLa, hB34⟩ hlen
  subst ha0
  clear HI0
  simp only [PutX, Act.put, sA, sB, sC]
  obtain ⟨c, e1, e2, e3, hG⟩ := hI.gm
  obtain ⟨hb, hi0⟩ := HPO.out.at' x.1 x.2
  have hok := contE_ok HPO.out pre _ hb
  have hi := Nat.lt_of_lt_of_le hi0 hok.1
  obtain ⟨g38, c38, q, cq, x0, ecb, ho38, hn38, hg38, hc38, hm38, ein, hnq, hcq, hmq, n0, hfz, hx, hxa, hxs, hrow, hgq, hb38, hb43⟩ := hG.look hb hi
  have HRD := kept (contE_round (f := f) (zs := placesL f) (pre := pre) (x := x))
  have hlenE := hok.2.1
  have hpre : pre.length ≤ 40000 := by have h9 := HZ4.out; omega
  have hins := (HFW.out.block _ (bang_mem (l := f.blocks.2) (k := (placesL f)[x.1]!.1) hb)).2
  have hxok := hok.2.2 _ (bang_mem hi)
  obtain ⟨b, hbe⟩ : ∃ b, (placesL f)[x.1]!.1 = b := ⟨_, rfl⟩
  obtain ⟨i, hie⟩ : ∃ i, (placesL f)[x.1]!.2 = i := ⟨_, rfl⟩
  simp only [hbe, hie] at *
  clear hbe hie hok hi0
  obtain ⟨E, hE⟩ : ∃ E, contE f (placesL f) pre = E := ⟨_, rfl⟩
  rw [hE] at hG HRD hi ein hcq n0 hxs hrow hlenE hxok hb38
  clear hE
  have hen9 : (E b).length ≤ 100000 := by omega
  clear hlenE hins
  have s2 : W.cell? ⟨L9, 2, none⟩ = some (.slice (some ⟨g38, 0, none⟩) f.nb c38) := by rw [hG.box.cell 2, ← ecb]; rfl
  obtain ⟨p0, p1⟩ := hB34.c2
  simp at p0 p1
  have x9 := hx 0 _ rfl
  have x1 := hx 1 _ rfl
  have x2 := hx 2 _ rfl
  have x3 := hx 3 _ rfl
  simp only [Nat.add_zero] at x9
  clear hx
  obtain ⟨ya, yc, ye, -, -, -⟩ := IntsAt.open_ hxa
  rw [ye] at x2
  obtain ⟨hop, hal⟩ : (0 ≤ x0.op ∧ x0.op < 27) ∧ x0.args.2.length = (ktakes x0.op.toNat).size := by obtain ⟨h8, h9⟩ := hxok; rw [← hxs.1] at h8 h9; rw [← hxs.2.2.1] at h9; exact ⟨h8, h9⟩
  have CN := kept (fun W (hW : InstAt W x0) => needs45R_any x0 x0.op.toNat W hW (by omega) (by omega) hal)
  rw [ye] at CN
  obtain ⟨en, hen⟩ : ∃ n, (E b).length = n := ⟨_, rfl⟩
  rw [hen] at hi ein hcq n0 hrow hen9 hb38
  obtain ⟨yl, hyl⟩ : ∃ n, x0.args.2.length = n := ⟨_, rfl⟩
  rw [hyl] at x2 CN
  clear hyl hal hxok
  have hcp : cq ≤ 9223372036854775807 := by have h9 := hmq; unfold maxLen at h9; omega
  have hcb9 : c38 ≤ 9223372036854775807 := by have h9 := hm38; unfold maxLen at h9; omega
  have hbz : (b : Int) < (f.nb : Int) := by omega
  have hiz : (i : Int) < (en : Int) := by omega
  have HG := kept hG
  have HI := kept hI
  have HXA := kept hxa
  have HXS := kept hxs
  have HROW := kept hrow
  have HGQ := kept hgq
  have HB38 := kept hb38
  have HB43 := kept hb43
  have HEN := kept hen
  have HEI := kept ein
  have HO38 := kept ho38
  have HE3 := kept (And.intro e1 (And.intro e2 e3))
  have HECB := kept ecb
  have HYE := kept ye
  have HB34 := kept hB34
  have HNN := kept (And.intro hn38 (And.intro hnq (And.intro hLa (And.intro hl hb))))
  clear hG hI hxa hxs hrow hgq hb38 hb43 hen ein ho38 e1 e2 e3 ecb ye hB34 hfz hn38 hnq hLa hl hlen hmq hm38
  gi_wp2
  refine wpIn_region_heldR (S := (fun w' => w'.cell? ⟨g38, b * 7 + 2, none⟩ = some (.slice (some ⟨q, 0, none⟩) en cq) ∧ w'.cell? ⟨La, 1, none⟩ = some (.int .i64 i) ∧ w'.cell? ⟨q, i * 4, none⟩ = some (.int .i64 x0.op) ∧ w'.cell? ⟨q, i * 4 + 1, none⟩ = some (.int .i64 x0.dst) ∧ w'.cell? ⟨q, i * 4 + 2, none⟩ = some (.slice ya yl yc) ∧ w'.cell? ⟨q, i * 4 + 3, none⟩ = some (.int .i64 x0.num))) ?ahq (by kernel_rfl) (by kernel_rfl) ?ahS (fun hHeld => ?_)
  case ahq => rintro ⟨_, _, hq⟩; exact hq
  case ahS => exact ⟨((Keeps.refl W []).drew).cellOf n0, ((Keeps.refl W []).drew).cellOf p1, ((Keeps.refl W []).drew).cellOf x9, ((Keeps.refl W []).drew).cellOf x1, ((Keeps.refl W []).drew).cellOf x2, ((Keeps.refl W []).drew).cellOf x3⟩
  replace n0 := ((Keeps.refl W []).drew).cellOf n0
  replace p1 := ((Keeps.refl W []).drew).cellOf p1
  replace x9 := ((Keeps.refl W []).drew).cellOf x9
  replace x1 := ((Keeps.refl W []).drew).cellOf x1
  replace x2 := ((Keeps.refl W []).drew).cellOf x2
  replace x3 := ((Keeps.refl W []).drew).cellOf x3
  clear s2 p0
  have HKX := kept ((Keeps.refl W []).drew)
  generalize World.drew W = X0a at *
  refine tp 0 50 rfl hHeld ?_
  refine tp 1 51 rfl hHeld ?_
  refine tp 2 52 rfl hHeld ?_
  refine tp 3 53 rfl hHeld ?_
  refine tp 4 54 rfl hHeld ?_
  refine tp 5 55 rfl hHeld ?_
  refine tp 6 56 rfl hHeld ?_
  refine tp 7 57 rfl hHeld ?_
  refine t1 8 fun K hK => ?_
  clear hHeld
  go_simp
  have hxi : InstAt X0a x0 := IntsAt.keep' (w := W) (p := x0.args) HXA.out HKX.out
  (with_reducible refine (CN.out _ hxi).mono ?_)
  clear hxi
  rintro e Y1a ⟨⟨nv, rfl, hno⟩, k3⟩
  have HNO0 := kept (own_low hno (Nat.le_trans HI.out.s HKX.out.size))
  obtain ⟨na, nc, rfl, -, -⟩ := own_form hno
  clear hno CN
  show K _ _
  replace n0 := k3.cellOf n0
  replace p1 := k3.cellOf p1
  replace x9 := k3.cellOf x9
  replace x1 := k3.cellOf x1
  replace x2 := k3.cellOf x2
  replace x3 := k3.cellOf x3
  replace HKX := kept (HKX.out.and_then k3)
  clear k3
  refine hK.out _ _ ?ah1 (fun hHeld => ?_)
  case ah1 => exact ⟨n0, p1, x9, x1, x2, x3⟩
  clear hK K
  try simp only [Act.put, sA, sB, sC]
  refine tp 9 49 rfl hHeld ?_
  refine tp 10 59 rfl hHeld ?_
  refine tp 11 60 rfl hHeld ?_
  refine tp 12 61 rfl hHeld ?_
  refine tp 13 13 rfl hHeld ?_
  refine tp 14 14 rfl hHeld ?_
  refine tp 15 15 rfl hHeld ?_
  refine wpAnyH_done (by kernel_rfl) ?_ _
  clear hHeld
  gi_wp2
  refine wpIn_region_heldR (S := (fun w' => w'.cell? ⟨La, 1, none⟩ = some (.int .i64 i))) ?bhq (by kernel_rfl) (by kernel_rfl) ?bhS (fun hHeld => ?_)
  case bhq => rintro ⟨_, _, hq⟩; exact hq
  case bhS => exact ((Keeps.refl _ []).drew).cellOf p1
  replace p1 := ((Keeps.refl _ []).drew).cellOf p1
  replace n0 := ((Keeps.refl _ []).drew).cellOf n0
  replace HKX := kept (HKX.out.drew)
  replace HNO0 := kept (own_keep HNO0.out ((Keeps.refl _ []).drew) (by simp))
  generalize World.drew _ = X0b at *
  clear x9 x1 x2 x3
  refine tp 0 62 rfl hHeld ?_
  refine tp 1 63 rfl hHeld ?_
  refine tp 2 64 rfl hHeld ?_
  refine tp 3 65 rfl hHeld ?_
  refine tp 5 67 rfl hHeld ?_
  refine tp 6 68 rfl hHeld ?_
  refine tp 7 69 rfl hHeld ?_
  refine tp 8 70 rfl hHeld ?_
  refine tp 9 71 rfl hHeld ?_
  refine t2 [4, 10] ?_
  refine t3 (fun K hK => ?_) ?_
  ·clear hHeld
   go_simp
   show K _ _
   refine hK.out _ _ ?bh1 (fun hHeld => ?_)
   case bh1 => exact p1
   clear hK K
   try simp only [Act.put, sA, sB, sC]
   refine t1 10 fun K hK => ?_
   clear hHeld
   go_simp
   have k3 : Keeps X0b (X0b.alloc (.cells #[.int .i64 (needC x0.op.toNat).1, .int .i64 (-1), .slice na (needA x0 x0.op.toNat).length nc, .int .i64 0] 43)) [] := (Keeps.refl _ []).alloc _
   have HGB := kept (Blk.new X0b 43 #[.int .i64 (needC x0.op.toNat).1, .int .i64 (-1), .slice na (needA x0 x0.op.toNat).length nc, .int .i64 0])
   have HGN := kept (show q ≠ X0b.heap.size from fun e => by obtain ⟨cs9, h9⟩ := HB43.out; have h8 := h9.lt; have h7 := HKX.out.size; omega)
   show K _ _
   try replace n0 := k3.cellOf n0
   replace p1 := k3.cellOf p1
   replace HNO0 := kept (own_keep HNO0.out k3 (by simp))
   replace HKX := kept (HKX.out.and_then k3)
   clear k3
   generalize X0b.alloc (.cells #[.int .i64 (needC x0.op.toNat).1, .int .i64 (-1), .slice na (needA x0 x0.op.toNat).length nc, .int .i64 0] 43) = Y2b at *
   generalize X0b.heap.size = G9 at *
   refine hK.out _ _ ?bh2 (fun hHeld => ?_)
   case bh2 => exact p1
   clear hK K
   try simp only [Act.put, sA, sB, sC]
   refine t1 11 fun K hK => ?_
   clear hHeld
   go_simp
   have hro : Y2b.ownsRow W4.heap.size 43 4 (.slice (some ⟨q, 0, none⟩) en cq) en (c.blocks.2[b]!.insts.2.map InstM.cells).flatten := by have h9 := HROW.out; rw [HEI.out] at h9; exact own_keep h9 HKX.out (by simp)
   have C46 := kept (insert_any W4.heap.size (.slice (some ⟨q, 0, none⟩) en cq) en i G9 (c.blocks.2[b]!.insts.2.map InstM.cells) ((⟨(needC x0.op.toNat).1, -1, (.slice na (needA x0 x0.op.toNat).length nc, needA x0 x0.op.toNat), 0⟩ : InstM)).cells Y2b (Nat.le_trans HI.out.s HKX.out.size) hro (fun l hl => by obtain ⟨z, _, rfl⟩ := List.mem_map.1 hl; rfl) rfl HGB.out (fun e => HGN.out (by simpa [Value.ownBlock] using e)) (by omega) hen9 (fun l hl u hu => by obtain ⟨z, hz, rfl⟩ := List.mem_map.1 hl; exact inst_one (HG.out.own b (by rw [HG.out.same.nb]; exact HNN.out.2.2.2.2)) z hz u hu) (by simp [InstM.cells, Value.oneCell']))
   clear hro
   (with_reducible refine C46.out.mono ?_)
   rintro e Y3b ⟨v9, rfl, hv9, hvb, hk9⟩
   clear C46
   have HV9 := kept hv9
   have HVB := kept hvb
   have K46 := kept (hk9 q rfl)
   obtain ⟨vz, vzc, rfl, -, -⟩ := own_form hv9
   clear hv9 hvb hk9
   show K _ _
   have p1' : Y3b.cell? ⟨La, 1, none⟩ = some (.int .i64 i) := ((HB34.out.keep HKX.out (by simp)).keep K46.out (by simp; intro e; obtain ⟨cs9, h9⟩ := HB43.out; exact blk_neT HB34.out h9 (by decide) e)).cell 1
   clear p1
   have p1 := p1'
   clear p1' n0
   refine hK.out _ _ ?bh3 (fun hHeld => ?_)
   case bh3 => exact p1
   clear hK K
   try simp only [Act.put, sA, sB, sC]
   refine tp 12 74 rfl hHeld ?_
   refine tp 13 75 rfl hHeld ?_
   refine t1 14 fun K hK => ?_
   clear hHeld
   obtain ⟨cs38, hb38, hcs⟩ := HB38.out
   have hbX : Blk Y3b g38 38 cs38 := (hb38.keep HKX.out (by simp)).keep K46.out (by simp; exact HGQ.out)
   have m0 := hbX.cell (b * 7 + 2)
   rw [hcs] at m0
   have m1 := hbX.frozen (b * 7 + 2)
   go_simp
   clear m0 m1
   show K _ _
   have p1' : (Y3b.setCell ⟨g38, b * 7 + 2, none⟩ (.slice vz (en + 1) vzc)).cell? ⟨La, 1, none⟩ = some (.int .i64 i) := (show Blk (Y3b.setCell ⟨g38, b * 7 + 2, none⟩ (.slice vz (en + 1) vzc)) La 34 _ from tk_set hbX (by decide) _ _ ((HB34.out.keep HKX.out (by simp)).keep K46.out (by simp; intro e; obtain ⟨cs9, h9⟩ := HB43.out; exact blk_neT HB34.out h9 (by decide) e))).cell 1
   clear p1
   have p1 := p1'
   clear p1'
   have HBX := kept hbX
   clear hbX hcs hb38
   refine hK.out _ _ ?bh4 (fun hHeld => ?_)
   case bh4 => exact p1
   clear hK K
   try simp only [Act.put, sA, sB, sC]
   refine wpAnyH_done (by kernel_rfl) ?_ _
   clear hHeld
   gi_wp2
   clear p1
   obtain ⟨cs43, h43⟩ := HB43.out
   have hX := h43.keep HKX.out (by simp)
   obtain ⟨c', f1, f2, f3, hG'⟩ := (HG.out.keep HKX.out).ins (b := b) (i := i) (g38 := g38) (v' := .slice vz (en + 1) vzc) (xq := (⟨(needC x0.op.toNat).1, -1, (.slice na (needA x0 x0.op.toNat).length nc, needA x0 x0.op.toNat), 0⟩ : InstM)) HNN.out.2.2.2.2 (by rw [HEN.out]; exact hi) HO38.out (by rw [HEN.out]; exact HV9.out) (by rw [HEI.out]; exact HVB.out) (fun q' h => by rw [HEI.out] at h; simp [Value.ownBlock] at h; subst h; exact K46.out) HNO0.out ⟨by show (needC x0.op.toNat).1 = (needC _).1; rw [HXS.out.1], rfl, by show needA x0 _ = needA _ _; unfold needA; rw [HXS.out.1, HXS.out.2.2.1], rfl⟩
   have hch := ((HKX.out.below HI.out.s (by simp)).trans (K46.out.below (Nat.le_trans HI.out.s HKX.out.size) (by simp; exact HNN.out.2.1))).setCell (p := ⟨g38, b * 7 + 2, none⟩) HNN.out.1 (.slice vz (en + 1) vzc)
   have hT := fun (T : TypeId) (h1 : 43 ≠ T) (h2 : 38 ≠ T) => ((tk_keeps (T := T) HKX.out).trans (tk_keeps1 K46.out hX h1)).trans (tk_set (i := b * 7 + 2) (u := .slice vz (en + 1) vzc) HBX.out h2)
   refine ⟨((keepsFrom0 HKX.out).trans (keepsFrom1 K46.out hX)).trans ((KeepsOthers.setCell _ _ _).from _), ⟨hch, hT 51 (by decide) (by decide)⟩, ⟨⟨c', f1.trans HE3.out.1, f2.trans HE3.out.2.1, f3.trans HE3.out.2.2, by rw [HRD.out]; exact hG'⟩, hT 26 (by decide) (by decide) _ _ HI.out.r, HI.out.b.trans (hch.mono (by have h9 := HW4.out; omega)), Nat.le_trans HI.out.s hch.size⟩⟩
  refine t3 (fun K hK => ?_) ?_
  ·clear hHeld
   go_simp
   have k3 : Keeps X0b (X0b.alloc (.cells #[.int .i64 (needC x0.op.toNat).1, .int .i64 (-1), .slice na (needA x0 x0.op.toNat).length nc, .int .i64 0] 43)) [] := (Keeps.refl _ []).alloc _
   have HGB := kept (Blk.new X0b 43 #[.int .i64 (needC x0.op.toNat).1, .int .i64 (-1), .slice na (needA x0 x0.op.toNat).length nc, .int .i64 0])
   have HGN := kept (show q ≠ X0b.heap.size from fun e => by obtain ⟨cs9, h9⟩ := HB43.out; have h8 := h9.lt; have h7 := HKX.out.size; omega)
   show K _ _
   try replace n0 := k3.cellOf n0
   replace p1 := k3.cellOf p1
   replace HNO0 := kept (own_keep HNO0.out k3 (by simp))
   replace HKX := kept (HKX.out.and_then k3)
   clear k3
   generalize X0b.alloc (.cells #[.int .i64 (needC x0.op.toNat).1, .int .i64 (-1), .slice na (needA x0 x0.op.toNat).length nc, .int .i64 0] 43) = Y5b at *
   generalize X0b.heap.size = G9 at *
   refine hK.out _ _ ?bh5 (fun hHeld => ?_)
   case bh5 => exact p1
   clear hK K
   try simp only [Act.put, sA, sB, sC]
   refine t1 4 fun K hK => ?_
   clear hHeld
   go_simp
   show K _ _
   refine hK.out _ _ ?bh6 (fun hHeld => ?_)
   case bh6 => exact p1
   clear hK K
   try simp only [Act.put, sA, sB, sC]
   refine t1 11 fun K hK => ?_
   clear hHeld
   go_simp
   have hro : Y5b.ownsRow W4.heap.size 43 4 (.slice (some ⟨q, 0, none⟩) en cq) en (c.blocks.2[b]!.insts.2.map InstM.cells).flatten := by have h9 := HROW.out; rw [HEI.out] at h9; exact own_keep h9 HKX.out (by simp)
   have C46 := kept (insert_any W4.heap.size (.slice (some ⟨q, 0, none⟩) en cq) en i G9 (c.blocks.2[b]!.insts.2.map InstM.cells) ((⟨(needC x0.op.toNat).1, -1, (.slice na (needA x0 x0.op.toNat).length nc, needA x0 x0.op.toNat), 0⟩ : InstM)).cells Y5b (Nat.le_trans HI.out.s HKX.out.size) hro (fun l hl => by obtain ⟨z, _, rfl⟩ := List.mem_map.1 hl; rfl) rfl HGB.out (fun e => HGN.out (by simpa [Value.ownBlock] using e)) (by omega) hen9 (fun l hl u hu => by obtain ⟨z, hz, rfl⟩ := List.mem_map.1 hl; exact inst_one (HG.out.own b (by rw [HG.out.same.nb]; exact HNN.out.2.2.2.2)) z hz u hu) (by simp [InstM.cells, Value.oneCell']))
   clear hro
   (with_reducible refine C46.out.mono ?_)
   rintro e Y7b ⟨v9, rfl, hv9, hvb, hk9⟩
   clear C46
   have HV9 := kept hv9
   have HVB := kept hvb
   have K46 := kept (hk9 q rfl)
   obtain ⟨vz, vzc, rfl, -, -⟩ := own_form hv9
   clear hv9 hvb hk9
   show K _ _
   have p1' : Y7b.cell? ⟨La, 1, none⟩ = some (.int .i64 i) := ((HB34.out.keep HKX.out (by simp)).keep K46.out (by simp; intro e; obtain ⟨cs9, h9⟩ := HB43.out; exact blk_neT HB34.out h9 (by decide) e)).cell 1
   clear p1
   have p1 := p1'
   clear p1' n0
   refine hK.out _ _ ?bh7 (fun hHeld => ?_)
   case bh7 => exact p1
   clear hK K
   try simp only [Act.put, sA, sB, sC]
   refine tp 12 74 rfl hHeld ?_
   refine tp 13 75 rfl hHeld ?_
   refine t1 14 fun K hK => ?_
   clear hHeld
   obtain ⟨cs38, hb38, hcs⟩ := HB38.out
   have hbX : Blk Y7b g38 38 cs38 := (hb38.keep HKX.out (by simp)).keep K46.out (by simp; exact HGQ.out)
   have m0 := hbX.cell (b * 7 + 2)
   rw [hcs] at m0
   have m1 := hbX.frozen (b * 7 + 2)
   go_simp
   clear m0 m1
   show K _ _
   have p1' : (Y7b.setCell ⟨g38, b * 7 + 2, none⟩ (.slice vz (en + 1) vzc)).cell? ⟨La, 1, none⟩ = some (.int .i64 i) := (show Blk (Y7b.setCell ⟨g38, b * 7 + 2, none⟩ (.slice vz (en + 1) vzc)) La 34 _ from tk_set hbX (by decide) _ _ ((HB34.out.keep HKX.out (by simp)).keep K46.out (by simp; intro e; obtain ⟨cs9, h9⟩ := HB43.out; exact blk_neT HB34.out h9 (by decide) e))).cell 1
   clear p1
   have p1 := p1'
   clear p1'
   have HBX := kept hbX
   clear hbX hcs hb38
   refine hK.out _ _ ?bh8 (fun hHeld => ?_)
   case bh8 => exact p1
   clear hK K
   try simp only [Act.put, sA, sB, sC]
   refine wpAnyH_done (by kernel_rfl) ?_ _
   clear hHeld
   gi_wp2
   clear p1
   obtain ⟨cs43, h43⟩ := HB43.out
   have hX := h43.keep HKX.out (by simp)
   obtain ⟨c', f1, f2, f3, hG'⟩ := (HG.out.keep HKX.out).ins (b := b) (i := i) (g38 := g38) (v' := .slice vz (en + 1) vzc) (xq := (⟨(needC x0.op.toNat).1, -1, (.slice na (needA x0 x0.op.toNat).length nc, needA x0 x0.op.toNat), 0⟩ : InstM)) HNN.out.2.2.2.2 (by rw [HEN.out]; exact hi) HO38.out (by rw [HEN.out]; exact HV9.out) (by rw [HEI.out]; exact HVB.out) (fun q' h => by rw [HEI.out] at h; simp [Value.ownBlock] at h; subst h; exact K46.out) HNO0.out ⟨by show (needC x0.op.toNat).1 = (needC _).1; rw [HXS.out.1], rfl, by show needA x0 _ = needA _ _; unfold needA; rw [HXS.out.1, HXS.out.2.2.1], rfl⟩
   have hch := ((HKX.out.below HI.out.s (by simp)).trans (K46.out.below (Nat.le_trans HI.out.s HKX.out.size) (by simp; exact HNN.out.2.1))).setCell (p := ⟨g38, b * 7 + 2, none⟩) HNN.out.1 (.slice vz (en + 1) vzc)
   have hT := fun (T : TypeId) (h1 : 43 ≠ T) (h2 : 38 ≠ T) => ((tk_keeps (T := T) HKX.out).trans (tk_keeps1 K46.out hX h1)).trans (tk_set (i := b * 7 + 2) (u := .slice vz (en + 1) vzc) HBX.out h2)
   refine ⟨((keepsFrom0 HKX.out).trans (keepsFrom1 K46.out hX)).trans ((KeepsOthers.setCell _ _ _).from _), ⟨hch, hT 51 (by decide) (by decide)⟩, ⟨⟨c', f1.trans HE3.out.1, f2.trans HE3.out.2.1, f3.trans HE3.out.2.2, by rw [HRD.out]; exact hG'⟩, hT 26 (by decide) (by decide) _ _ HI.out.r, HI.out.b.trans (hch.mono (by have h9 := HW4.out; omega)), Nat.le_trans HI.out.s hch.size⟩⟩
  exact t4
 case done =>
  rintro D ys W hD rfl hI hK
  subst ha0
  clear HI0
  obtain ⟨c, e1, e2, e3, hG⟩ := hI.gm
  have BL := hG.box
  rw [e1, e2, e3, HVE.out.1, HVE.out.2.1, HVE.out.2.2] at BL
  obtain ⟨s0, s1, s2⟩ := BL.c3
  simp at s0 s1 s2
  obtain ⟨r0, r1, r2⟩ := hI.r.c3
  simp at r0 r1 r2
  have f0 := hI.r.frozen 0
  have f1 := hI.r.frozen 1
  have f2 := hI.r.frozen 2
  have HG := kept hG
  have HI := kept hI
  have HKD := kept hK
  have HDD := kept hD
  have HE3 := kept (And.intro e1 (And.intro e2 e3))
  clear hG hI hK BL hD e1 e2 e3
  go_wp2
  clear s0 s1 s2 r0 r1 r2 f0 f1 f2
  have BF := ((HI.out.r.set_ 0 (.slice va cc.nv vc)).set_ 1 (.slice pa cc.np pc)).set_ 2 (.slice ba cc.nb bc)
  have hK' : (((W.setCell ⟨w.heap.size + 1, 0, none⟩ (.slice va cc.nv vc)).setCell ⟨w.heap.size + 1, 1, none⟩ (.slice pa cc.np pc)).setCell ⟨w.heap.size + 1, 2, none⟩ (.slice ba cc.nb bc)).heap[D]? = some (.deferred (some [])) := (KeepsOthers.setCell _ _ _).same D _ ((KeepsOthers.setCell _ _ _).same D _ ((KeepsOthers.setCell _ _ _).same D _ HKD.out rfl) rfl) rfl
  have hkF : Keeps W (((W.setCell ⟨w.heap.size + 1, 0, none⟩ (.slice va cc.nv vc)).setCell ⟨w.heap.size + 1, 1, none⟩ (.slice pa cc.np pc)).setCell ⟨w.heap.size + 1, 2, none⟩ (.slice ba cc.nb bc)) [w.heap.size + 1] := ((((Keeps.refl W _).setCell (.inl (by simp)) _).setCell (.inl (by simp)) _).setCell (.inl (by simp)) _)
  generalize (((W.setCell ⟨w.heap.size + 1, 0, none⟩ (.slice va cc.nv vc)).setCell ⟨w.heap.size + 1, 1, none⟩ (.slice pa cc.np pc)).setCell ⟨w.heap.size + 1, 2, none⟩ (.slice ba cc.nb bc)) = Z at *
  have hT := fun (T : TypeId) (h : T ≠ 26) => ((show TyK T W Z from fun b cs hb => hb.keep hkF (by simp; exact fun e => blk_neT hb HI.out.r h e)).trans (tk_other (grownBy_putObj' Z D (.deferred none)) (fun r e => by cases e; exact ⟨_, hK', rfl⟩) T))
  have BD := tk_other (grownBy_putObj' Z D (.deferred none)) (fun r e => by cases e; exact ⟨_, hK', rfl⟩) 26 _ _ BF
  obtain ⟨r0, r1, r2⟩ := BD.c3
  simp at r0 r1 r2
  have hbel : Below w.heap.size w (Z.putObj D (.deferred none)) := (HI.out.b.trans (hkF.below (by have h9 := HI.out.b.size; omega) (by simp))).trans (belowK_b (w := w) (Nat.le_refl _) Z D _ _ (by have h9 := HSZ.out; have h8 := HDD.out; omega) hK' rfl rfl)
  refine ⟨by simp, .inl ⟨_, _, rfl, run_takeDeferred hK', ?_⟩⟩
  refine ⟨.tuple #[.agg #[.slice va cc.nv vc, .slice pa cc.np pc, .slice ba cc.nb bc], .int .i64 0], by simp [results, Tryz.f24, go_sem, r0, r1, r2], .inr (.inr ⟨HT.out, HN.out, c, ?_, HG.out.func hT HF.out, ⟨HG.out.same.vars, HG.out.same.params, HG.out.same.nb, fun b hb => by rw [← contE_made HT.out hb]; exact HG.out.same.blk b hb⟩⟩), below_keeps hbel⟩
  unfold FuncM.val; rw [HE3.out.1, HE3.out.2.1, HE3.out.2.2, HVE.out.1, HVE.out.2.1, HVE.out.2.2]
end Go.Proofs.YtjllbchfojonhaaGreatDoor
