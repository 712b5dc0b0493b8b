/- An instruction of a run; contract. ; A step of a run; contracts. -/
import Derived.Test.YtjllbchfojonhaaGreatDoorRE
import Derived.Test.YtjllbchfojonhaaGreatDoorR8D
import Derived.Test.YtjllbchfojonhaaGreatDoorR8E
import Derived.Deep.Cut
namespace Go.Proofs.YtjllbchfojonhaaGreatDoor
open Go.RowKit
set_option linter.unusedVariables false
set_option linter.unusedSimpArgs false
theorem run_inst (wB W : World) (g : Nat) (R : RepM) (f : FuncM) (n K : Nat) (ty : Int → Int) (s : StM) (x : InstM) (hx : InstOK n ty x) (hn : inI x.num = true) (h : WAt wB W g R f n s) (hG : GoodM n K s) (hA : IntsAt wB x.args) (hK : K < 1000000) : Calls Tryz.prog 48 #[.pointer (some ⟨g, 0, none⟩), .agg #[.int .i64 x.op, .int .i64 x.dst, x.args.1, .int .i64 x.num]] W (RunRet wB g f n (instM s x)) := by
 by_cases e : x.op < 14
 ·exact inst_lo wB W g R f n K ty s x e hx hn h hG hA hK
 ·exact inst_hi wB W g R f n K ty s x (by omega) hx hn h hG hA hK
theorem blk_seven {W : World} {q : Nat} {x0 x1 x2 x3 x4 x5 x6 a b c d e f g : Value} (h : Blk W q 38 #[x0, x1, x2, x3, x4, x5, x6]) : Blk (World.setCell (World.setCell (World.setCell (World.setCell (World.setCell (World.setCell (World.setCell W ⟨q, 0, none⟩ a) ⟨q, 1, none⟩ b) ⟨q, 2, none⟩ c) ⟨q, 3, none⟩ d) ⟨q, 4, none⟩ e) ⟨q, 5, none⟩ f) ⟨q, 6, none⟩ g) q 38 #[a, b, c, d, e, f, g] := by
 have h7 := ((((((h.set_ 0 a).set_ 1 b).set_ 2 c).set_ 3 d).set_ 4 e).set_ 5 f).set_ 6 g
 simpa only [List.setIfInBounds_toArray, List.set_cons_zero, List.set_cons_succ] using h7
theorem keeps_seven {w W : World} {q : Nat} {a b c d e f g : Value} (h : Keeps w W []) (hq : w.heap.size ≤ q) : Keeps w (World.setCell (World.setCell (World.setCell (World.setCell (World.setCell (World.setCell (World.setCell W ⟨q, 0, none⟩ a) ⟨q, 1, none⟩ b) ⟨q, 2, none⟩ c) ⟨q, 3, none⟩ d) ⟨q, 4, none⟩ e) ⟨q, 5, none⟩ f) ⟨q, 6, none⟩ g) [] :=
 ((((((h.setCell (.inr hq) a).setCell (.inr hq) b).setCell (.inr hq) c).setCell (.inr hq) d).setCell (.inr hq) e).setCell (.inr hq) f).setCell (.inr hq) g
theorem stateC_tick (R : RepM) (f : FuncM) (n : Nat) (s : StM) : (stateC R f n s).setIfInBounds 13 (.int .i64 ((s.out.steps : Nat) + 1 : Int)) = stateC R f n s.tick := by simp [stateC, StM.tick]
theorem stateC_next (R : RepM) (f : FuncM) (n : Nat) (s : StM) : (stateC R f n s).setIfInBounds 8 (.int .i64 ((s.pc : Nat) + 1 : Int)) = stateC R f n s.next := by simp [stateC, StM.next]
theorem stateC_val (R : RepM) (f : FuncM) (n : Nat) (s : StM) (x : Int) : (stateC R f n s).setIfInBounds 10 (.int .i64 x) = stateC R f n (s.val x) := by simp [stateC, StM.val]
set_option maxRecDepth 100000 in
set_option maxHeartbeats 200000000 in
theorem step_any (wB W : World) (g : Nat) (R : RepM) (f : FuncM) (n Kc nb : Nat) (ty : Int → Int) (s : StM) (h : WAt wB W g R f n s) (hG : GoodM n Kc s) (hf : FuncAt wB f) (hbl : s.block < nb) (hnb : f.blocks.2.length = nb) (hok : BlockOK nb n ty f.blocks.2[s.block]!)
  (hphi : ∀ b, b < nb → leadsM f.blocks.2[s.block]! (b : Int) = true → ∀ p ∈ f.blocks.2[b]!.phis.2, PhiE n s.block p) (hpln : ∀ b, b < nb → f.blocks.2[b]!.phis.2.length ≤ 100000) (hnum : ∀ x ∈ f.blocks.2[s.block]!.insts.2, inI x.num = true) (hK : Kc < 100000) (hst : s.out.steps ≤ 100000) (hil : f.blocks.2[s.block]!.insts.2.length ≤ 100000) (hpc : s.pc ≤ f.blocks.2[s.block]!.insts.2.length) (hn : n ≤ 1000) :
  Calls Tryz.prog 27 #[.pointer (some ⟨g, 0, none⟩)] W (RunRet wB g f n (stepM (fun b => f.blocks.2[b]!) s)) := by
 have HK0 := kept h
 have HF := kept hf
 have HE := kept (step_eq (fun b => f.blocks.2[b]!) s)
 have hlb : s.block < f.blocks.2.length := by omega
 have HNB := kept hnb
 obtain ⟨a2, cc2, e2, -, -, hc2⟩ := hf.blocks.open_
 obtain ⟨b, off, rfl, hb, hcell⟩ := hc2 _ hlb
 have hbk := hf.block _ (bang_mem hlb)
 have HPh := kept hphi
 have HPl := kept hpln
 have HNm := kept hnum
 have HOk := kept hok
 obtain ⟨ia, ic, ie, -, -, hci⟩ := hbk.insts.open_
 have HCI := kept hci
 have HIN := kept (fun x hx => hbk.inst x hx)
 obtain ⟨pa, pc, pe, -⟩ := hbk.phis
 have HPE := kept pe
 have HCB := kept hcell
 rw [hnb] at e2
 have c13 := h.c13
 have c2 := h.c2
 rw [e2] at c2
 have f13 := h.fz 13
 have HT := kept (h.turn (keeps_set1 W g 13 (.int .i64 ((s.out.steps : Nat) + 1 : Int))) (by rw [← stateC_tick]; exact h.blk.set_ 13 _) (s' := s.tick) rfl rfl rfl rfl rfl h.ck)
 have HGT := kept (show GoodM n Kc s.tick from ⟨hG.f.of rfl rfl rfl, hG.i, hG.e, hG.z, hG.a, hG.m, hG.t, hG.c, hG.k⟩)
 clear hc2 hcell hbk hphi hpln hnum hok hci h hf hG
 go_enter Tryz.func27, Tryz.ntmps27
 go_wp2
 generalize hX : W.setCell ⟨g, 13, none⟩ _ = X1 at *
 clear hX c13 c2 f13
 have HCB2 := kept (fun (i : Nat) x (hx : (BlockM.cells f.blocks.2[s.block]!)[i]? = some x) => HT.out.k.cellOf (HCB.out i x hx))
 have HCB3 := kept (fun (i : Nat) x (hx : (BlockM.cells f.blocks.2[s.block]!)[i]? = some x) => ((HT.out.k.and_then ((Keeps.refl X1 []).drew)).cellOf (HCB.out i x hx)))
 have HTD := kept (HT.out.keep ((Keeps.refl X1 []).drew))
 have m0 : X1.cell? ⟨b, off + s.block * 7, none⟩ = some (.string f.blocks.2[s.block]!.name) := HCB2.out 0 _ rfl
 have m0d : (World.drew X1).cell? ⟨b, off + s.block * 7, none⟩ = some (.string f.blocks.2[s.block]!.name) := HCB3.out 0 _ rfl
 have m1 := HCB2.out 1 _ rfl
 have m1d := HCB3.out 1 _ rfl
 have m2 := HCB2.out 2 _ rfl
 have m2d := HCB3.out 2 _ rfl
 have m3 := HCB2.out 3 _ rfl
 have m3d := HCB3.out 3 _ rfl
 have m4 := HCB2.out 4 _ rfl
 have m4d := HCB3.out 4 _ rfl
 have m5 := HCB2.out 5 _ rfl
 have m5d := HCB3.out 5 _ rfl
 have m6 := HCB2.out 6 _ rfl
 have m6d := HCB3.out 6 _ rfl
 rw [ie] at m2 m2d
 rw [List.length_map] at pe
 rw [pe] at m1 m1d
 have c2 := HT.out.c2
 have c7 : X1.cell? ⟨g, 7, none⟩ = some (.int .i64 (s.block : Nat)) := HT.out.c7
 have c2d := HTD.out.c2
 have c7d : (World.drew X1).cell? ⟨g, 7, none⟩ = some (.int .i64 (s.block : Nat)) := HTD.out.c7
 rw [e2] at c2 c2d
 clear HCB2 HCB3 HTD
 generalize hbm : f.blocks.2[s.block]! = bm at *
 clear pe
 clear c2d c7d m0d m1d m2d m3d m4d m5d m6d
 have HS := kept (And.intro c2 (And.intro c7 (And.intro m0 (And.intro m1 (And.intro m2 (And.intro m3 (And.intro m4 (And.intro m5 m6))))))))
 clear c2 c7 m0 m1 m2 m3 m4 m5 m6
 have hSk : ∀ (A B : World), Keeps A B [] → (fun w' => w'.cell? ⟨g, 2, none⟩ = some (.slice (some ⟨b, off, none⟩) nb cc2) ∧ w'.cell? ⟨g, 7, none⟩ = some (.int .i64 (s.block : Nat)) ∧ w'.cell? ⟨b, off + s.block * 7, none⟩ = some (.string bm.name) ∧ w'.cell? ⟨b, off + s.block * 7 + 1, none⟩ = some (.slice pa bm.phis.2.length pc) ∧ w'.cell? ⟨b, off + s.block * 7 + 2, none⟩ = some (.slice ia bm.insts.2.length ic) ∧ w'.cell? ⟨b, off + s.block * 7 + 3, none⟩ = some (.int .i64 bm.kind) ∧ w'.cell? ⟨b, off + s.block * 7 + 4, none⟩ = some (.int .i64 bm.var) ∧ w'.cell? ⟨b, off + s.block * 7 + 5, none⟩ = some (.int .i64 bm.to0) ∧ w'.cell? ⟨b, off + s.block * 7 + 6, none⟩ = some (.int .i64 bm.to1)) A → (fun w' => w'.cell? ⟨g, 2, none⟩ = some (.slice (some ⟨b, off, none⟩) nb cc2) ∧ w'.cell? ⟨g, 7, none⟩ = some (.int .i64 (s.block : Nat)) ∧ w'.cell? ⟨b, off + s.block * 7, none⟩ = some (.string bm.name) ∧ w'.cell? ⟨b, off + s.block * 7 + 1, none⟩ = some (.slice pa bm.phis.2.length pc) ∧ w'.cell? ⟨b, off + s.block * 7 + 2, none⟩ = some (.slice ia bm.insts.2.length ic) ∧ w'.cell? ⟨b, off + s.block * 7 + 3, none⟩ = some (.int .i64 bm.kind) ∧ w'.cell? ⟨b, off + s.block * 7 + 4, none⟩ = some (.int .i64 bm.var) ∧ w'.cell? ⟨b, off + s.block * 7 + 5, none⟩ = some (.int .i64 bm.to0) ∧ w'.cell? ⟨b, off + s.block * 7 + 6, none⟩ = some (.int .i64 bm.to1)) B := fun A B k h => ⟨k.cellOf h.1, k.cellOf h.2.1, k.cellOf h.2.2.1, k.cellOf h.2.2.2.1, k.cellOf h.2.2.2.2.1, k.cellOf h.2.2.2.2.2.1, k.cellOf h.2.2.2.2.2.2.1, k.cellOf h.2.2.2.2.2.2.2.1, k.cellOf h.2.2.2.2.2.2.2.2⟩
 have HSK := kept hSk
 clear hSk
 refine wp_region_held_drew (S := (fun w' => w'.cell? ⟨g, 2, none⟩ = some (.slice (some ⟨b, off, none⟩) nb cc2) ∧ w'.cell? ⟨g, 7, none⟩ = some (.int .i64 (s.block : Nat)) ∧ w'.cell? ⟨b, off + s.block * 7, none⟩ = some (.string bm.name) ∧ w'.cell? ⟨b, off + s.block * 7 + 1, none⟩ = some (.slice pa bm.phis.2.length pc) ∧ w'.cell? ⟨b, off + s.block * 7 + 2, none⟩ = some (.slice ia bm.insts.2.length ic) ∧ w'.cell? ⟨b, off + s.block * 7 + 3, none⟩ = some (.int .i64 bm.kind) ∧ w'.cell? ⟨b, off + s.block * 7 + 4, none⟩ = some (.int .i64 bm.var) ∧ w'.cell? ⟨b, off + s.block * 7 + 5, none⟩ = some (.int .i64 bm.to0) ∧ w'.cell? ⟨b, off + s.block * 7 + 6, none⟩ = some (.int .i64 bm.to1))) (by kernel_rfl) ?gS (fun hHeld => ?_)
 case gS => exact HSK.out _ _ ((Keeps.refl X1 []).drew) HS.out
 have HSx := kept (HSK.out _ _ ((Keeps.refl X1 []).drew) HS.out)
 have HTx := kept (HT.out.keep ((Keeps.refl X1 []).drew))
 clear HS HT
 generalize World.drew X1 = X2 at *
 refine tp 0 13 rfl hHeld ?_
 refine tp 1 14 rfl hHeld ?_
 refine tp 2 15 rfl hHeld ?_
 refine tp 3 16 rfl hHeld ?_
 refine tp 4 17 rfl hHeld ?_
 refine tp 5 18 rfl hHeld ?_
 refine tp 6 19 rfl hHeld ?_
 refine tp 7 20 rfl hHeld ?_
 refine tp 8 21 rfl hHeld ?_
 refine tp 9 22 rfl hHeld ?_
 refine tp 10 23 rfl hHeld ?_
 refine wpAnyH_ready (rs := [11]) (by kernel_rfl) (by simp) ?_
 refine AllReadyH.cons rfl (fun K hK => ?_) AllReadyH.nil
 go_simp
 have k3 : Keeps X2 (X2.alloc (.cells #[.string ⟨#[]⟩, .slice none 0 0, .slice none 0 0, .int .i64 0, .int .i64 0, .int .i64 0, .int .i64 0] 38)) [] := (Keeps.refl X2 []).alloc _
 have BB := kept (Blk.new X2 38 #[.string ⟨#[]⟩, .slice none 0 0, .slice none 0 0, .int .i64 0, .int .i64 0, .int .i64 0, .int .i64 0])
 have HSy := kept (HSK.out _ _ k3 HSx.out)
 have HTy := kept (HTx.out.keep k3)
 have HX2 := kept (show g < X2.heap.size from HTx.out.blk.lt)
 have K23 := kept k3
 clear k3
 generalize hX3 : X2.alloc (.cells #[.string ⟨#[]⟩, .slice none 0 0, .slice none 0 0, .int .i64 0, .int .i64 0, .int .i64 0, .int .i64 0] 38) = X3 at *
 generalize hbg : X2.heap.size = bg at *
 clear hX3
 refine hK.out _ _ HSy.out (fun hHeld => ?_)
 clear hK K
 try simp only [Act.put, sA, sB, sC]
 refine wpAnyH_ready (rs := [12]) (by kernel_rfl) (by simp) ?_
 refine AllReadyH.cons rfl (fun K hK => ?_) AllReadyH.nil
 obtain ⟨t0, t1, t2, t3, t4, t5, t6⟩ := BB.out.c7
 have u0 := BB.out.frozen 0
 have u1 := BB.out.frozen 1
 have u2 := BB.out.frozen 2
 have u3 := BB.out.frozen 3
 have u4 := BB.out.frozen 4
 have u5 := BB.out.frozen 5
 have u6 := BB.out.frozen 6
 simp at t0 t1 t2 t3 t4 t5 t6
 go_simp
 clear t0 t1 t2 t3 t4 t5 t6 u0 u1 u2 u3 u4 u5 u6
 have BB4 := kept (blk_seven (a := (.string bm.name)) (b := (Value.slice pa bm.phis.2.length pc)) (c := (Value.slice ia bm.insts.2.length ic)) (d := (.int .i64 bm.kind)) (e := (.int .i64 bm.var)) (f := (.int .i64 bm.to0)) (g := (.int .i64 bm.to1)) BB.out)
 have K24 := kept (keeps_seven (a := (.string bm.name)) (b := (Value.slice pa bm.phis.2.length pc)) (c := (Value.slice ia bm.insts.2.length ic)) (d := (.int .i64 bm.kind)) (e := (.int .i64 bm.var)) (f := (.int .i64 bm.to0)) (g := (.int .i64 bm.to1)) K23.out (Nat.le_of_eq hbg))
 have HS4 := kept (HSK.out _ _ K24.out HSx.out)
 have HT4 := kept (HTx.out.keep K24.out)
 have Hbg := kept HX2.out
 clear HSx HSy HTx HTy BB K23 K24 hbg HX2
 generalize (World.setCell (World.setCell (World.setCell (World.setCell (World.setCell (World.setCell (World.setCell X3 ⟨bg, 0, none⟩ (.string bm.name)) ⟨bg, 1, none⟩ (Value.slice pa bm.phis.2.length pc)) ⟨bg, 2, none⟩ (Value.slice ia bm.insts.2.length ic)) ⟨bg, 3, none⟩ (.int .i64 bm.kind)) ⟨bg, 4, none⟩ (.int .i64 bm.var)) ⟨bg, 5, none⟩ (.int .i64 bm.to0)) ⟨bg, 6, none⟩ (.int .i64 bm.to1)) = X4 at *
 refine hK.out _ _ HS4.out (fun hHeld => ?_)
 clear hK K
 try simp only [Act.put, sA, sB, sC]
 refine wpAnyH_done (by kernel_rfl) ?_ _
 clear hHeld HS4 HSK
 have HBM := kept hbm
 have HIE := kept ie
 have HOKb := HOk
 clear hbm ie e2
 try clear hPv
 try clear hfl
 try clear hnb
 have HPC := kept hpc
 have HIL := kept hil
 have HST := kept hst
 clear hpc hil hst
 have c8 : X4.cell? ⟨g, 8, none⟩ = some (.int .i64 (s.pc : Nat)) := HT4.out.c8
 have t2 := BB4.out.cell 2
 simp at t2
 go_wp2
 go_quiet (fail)
 generalize hYq : X4.drewN _ = Y at *
 have KY := kept (show Keeps X4 Y [] by rw [← hYq]; exact (Keeps.refl X4 []).drewN _)
 clear hYq c8 t2
 have HT := kept (HT4.out.keep KY.out)
 have BB := kept (BB4.out.keep KY.out (by simp))
 clear HT4 BB4 KY
 have HKN := kept (HT.out.k)
 by_cases hp : s.pc < bm.insts.2.length
 ·have HE2 := kept (HE.out.trans (if_pos hp))
  have hmem := bang_mem hp
  have HXO := kept (HOk.out.inst _ hmem)
  have HXN := kept (HNm.out _ hmem)
  have HXA := kept (HIN.out _ hmem)
  obtain ⟨ib, io, rfl, hib, hxc⟩ := HCI.out s.pc hp
  have HXC := kept hxc
  clear hxc hmem
  generalize hx : bm.insts.2[s.pc]! = x at *
  have n0 : wB.cell? ⟨ib, io + s.pc * 4, none⟩ = some (.int .i64 x.op) := HXC.out 0 _ rfl
  have n1 : wB.cell? ⟨ib, io + s.pc * 4 + 1, none⟩ = some (.int .i64 x.dst) := HXC.out 1 _ rfl
  have n2 : wB.cell? ⟨ib, io + s.pc * 4 + 2, none⟩ = some x.args.1 := HXC.out 2 _ rfl
  have n3 : wB.cell? ⟨ib, io + s.pc * 4 + 3, none⟩ = some (.int .i64 x.num) := HXC.out 3 _ rfl
  obtain ⟨xa, xl, xc, exa⟩ : ∃ a l c, x.args.1 = .slice a l c := by obtain ⟨a, c, e, _⟩ := (show IntsAt wB x.args from HXA.out); exact ⟨a, _, c, e⟩
  rw [exa] at n2
  have HNN := kept (And.intro n0 (And.intro n1 (And.intro n2 n3)))
  have HEXA := kept exa
  clear n0 n1 n2 n3 hx exa hib
  have c8 : Y.cell? ⟨g, 8, none⟩ = some (.int .i64 (s.pc : Nat)) := HT.out.c8
  have f8 := HT.out.fz 8
  have hpc9 : s.pc ≤ 100000 := by have := HIL.out; omega
  have HV := kept (HT.out.turn (keeps_set1 Y g 8 (.int .i64 ((s.pc : Nat) + 1 : Int))) (by rw [← stateC_next R f n s.tick]; exact HT.out.blk.set_ 8 _) (s' := s.tick.next) rfl rfl rfl rfl rfl HT.out.ck)
  have BV := kept (BB.out.keep (keeps_set1 Y g 8 (.int .i64 ((s.pc : Nat) + 1 : Int))) (by have := Hbg.out; simp; omega))
  have HGN := kept (show GoodM n Kc s.tick.next from ⟨HGT.out.f.of rfl rfl rfl, HGT.out.i, HGT.out.e, HGT.out.z, HGT.out.a, HGT.out.m, HGT.out.t, HGT.out.c, HGT.out.k⟩)
  go_wp2
  generalize hVV : Y.setCell ⟨g, 8, none⟩ _ = V at *
  clear hVV c8 f8
  have s0 : V.cell? ⟨g, 8, none⟩ = some (.int .i64 ((s.pc : Nat) + 1 : Int)) := by have := HV.out.c8; exact this
  have s1 := BV.out.cell 2
  simp at s1
  have hwr : IntKind.i64.wrap (s.pc : Int) = (s.pc : Int) := IntWalk.i64_in _ (by omega)
  have HVD := kept (HV.out.keep ((Keeps.refl V []).drew))
  have BVD := kept (BV.out.keep ((Keeps.refl V []).drew) (by simp))
  clear s0 s1
  refine wp_region_held_drew (S := fun _ => True) (by kernel_rfl) ?aS (fun hHeld => ?_)
  case aS => exact trivial
  generalize World.drew V = V2 at *
  have s0 : V2.cell? ⟨g, 8, none⟩ = some (.int .i64 ((s.pc : Nat) + 1 : Int)) := by have := HVD.out.c8; exact this
  have s1 := BVD.out.cell 2
  simp at s1
  have n0 := HVD.out.k.cellOf HNN.out.1
  have n1 := HVD.out.k.cellOf HNN.out.2.1
  have n2 := HVD.out.k.cellOf HNN.out.2.2.1
  have n3 := HVD.out.k.cellOf HNN.out.2.2.2
  refine tk (i := 0) (oi := ⟨some 39, .move (.tmp 0), _, _, _, _⟩) (v := ?va00) rfl (Or.inl ⟨by rfl, ?ya00⟩) hHeld ?ra00
  case ya00 => (intro w hSw; clear hSw; go_simp; (try with_reducible rfl))
  try simp only [Act.put, sA, sB, sC]
  refine tk (i := 1) (oi := ⟨some 40, .fieldAddr 38 (.tmp 2) 2, _, _, _, _⟩) (v := ?va01) rfl (Or.inl ⟨by rfl, ?ya01⟩) hHeld ?ra01
  case ya01 => (intro w hSw; clear hSw; go_simp; (try with_reducible rfl))
  try simp only [Act.put, sA, sB, sC]
  refine tk (i := 3) (oi := ⟨some 42, .move (.tmp 0), _, _, _, _⟩) (v := ?va03) rfl (Or.inl ⟨by rfl, ?ya03⟩) hHeld ?ra03
  case ya03 => (intro w hSw; clear hSw; go_simp; (try with_reducible rfl))
  try simp only [Act.put, sA, sB, sC]
  refine tk (i := 4) (oi := ⟨some 43, .nilCheck (.tmp 42), _, _, _, _⟩) (v := ?va04) rfl (Or.inl ⟨by rfl, ?ya04⟩) hHeld ?ra04
  case ya04 => (intro w hSw; clear hSw; go_simp; (try with_reducible rfl))
  try simp only [Act.put, sA, sB, sC]
  refine tk (i := 5) (oi := ⟨some 44, .fieldAddr 75 (.tmp 43) 6, _, _, _, _⟩) (v := ?va05) rfl (Or.inl ⟨by rfl, ?ya05⟩) hHeld ?ra05
  case ya05 => (intro w hSw; clear hSw; go_simp; (try with_reducible rfl))
  try simp only [Act.put, sA, sB, sC]
  refine wpAnyH_ready (rs := [2, 6]) (by kernel_rfl) (by simp) ?_
  refine AllReadyH.cons rfl (fun K hK => ?_) ?_
  ·clear hHeld
   go_simp
   refine hK.out _ _ trivial (fun hHeld => ?_)
   clear hK K
   try simp only [Act.put, sA, sB, sC]
   refine wpAnyH_ready (rs := [6]) (by kernel_rfl) (by simp) ?_
   refine AllReadyH.cons rfl (fun K hK => ?_) AllReadyH.nil
   clear hHeld
   go_simp
   refine hK.out _ _ trivial (fun hHeld => ?_)
   clear hK K
   try simp only [Act.put, sA, sB, sC]
   refine tk (i := 7) (oi := ⟨some 46, .binOp BinOp.sub 3 (.tmp 45) (.const (Value.int IntKind.i64 1)) 3, _, _, _, _⟩) (v := ?va17) rfl (Or.inl ⟨by rfl, ?ya17⟩) hHeld ?ra17
   case ya17 => (intro w hSw; clear hSw; go_simp; (try with_reducible rfl))
   try simp only [Act.put, sA, sB, sC]
   refine tk (i := 8) (oi := ⟨some 47, .indexAddr 32 (.tmp 41) (.tmp 46), _, _, _, _⟩) (v := ?va18) rfl (Or.inl ⟨by rfl, ?ya18⟩) hHeld ?ra18
   case ya18 => (intro w hSw; clear hSw; go_simp; (try with_reducible rfl))
   try simp only [Act.put, sA, sB, sC]
   refine wpAnyH_ready (rs := [9]) (by kernel_rfl) (by simp) ?_
   refine AllReadyH.cons rfl (fun K hK => ?_) AllReadyH.nil
   clear hHeld
   go_simp
   refine hK.out _ _ trivial (fun hHeld => ?_)
   clear hK K
   try simp only [Act.put, sA, sB, sC]
   refine wpAnyH_ready (rs := [10]) (by kernel_rfl) (by simp) ?_
   refine AllReadyH.cons rfl (fun K hK => ?_) AllReadyH.nil
   clear s0 s1 n0 n1 n2 n3 hwr hHeld
   go_simp
   have CI := kept (run_inst wB V2 g R f n Kc ty s.tick.next x HXO.out HXN.out HVD.out HGN.out HXA.out (by omega))
   rw [HEXA.out] at CI
   (with_reducible refine CI.out.mono ?_)
   rintro e wx ⟨rfl, R', hR⟩
   show K _ _
   have HR := kept hR
   clear hR
   refine hK.out _ _ trivial (fun hHeld => ?_)
   clear hK K
   try simp only [Act.put, sA, sB, sC]
   refine wpAnyH_done (by kernel_rfl) ?_ _
   clear hHeld
   go_wp2
   first | (change bodyPost Tryz.prog Tryz.f27 _ Exit.normal _ _; refine bodyPost_end (v := .tuple #[]) (by have h : Tryz.f27.results = #[] := (by kernel_rfl); simp [results, h]) rfl ⟨rfl, R', ?_⟩) | (change bodyPost Tryz.prog Tryz.f27 _ Exit.ret _ _; refine bodyPost_ret (v := .tuple #[]) (by have h : Tryz.f27.results = #[] := (by kernel_rfl); simp [results, h]) rfl ⟨rfl, R', ?_⟩)
   rw [HE2.out]
   exact HR.out
  refine AllReadyH.cons rfl (fun K hK => ?_) ?_
  ·clear hHeld
   go_simp
   refine hK.out _ _ trivial (fun hHeld => ?_)
   clear hK K
   try simp only [Act.put, sA, sB, sC]
   refine tk (i := 7) (oi := ⟨some 46, .binOp BinOp.sub 3 (.tmp 45) (.const (Value.int IntKind.i64 1)) 3, _, _, _, _⟩) (v := ?va27) rfl (Or.inl ⟨by rfl, ?ya27⟩) hHeld ?ra27
   case ya27 => (intro w hSw; clear hSw; go_simp; (try with_reducible rfl))
   try simp only [Act.put, sA, sB, sC]
   refine wpAnyH_ready (rs := [2]) (by kernel_rfl) (by simp) ?_
   refine AllReadyH.cons rfl (fun K hK => ?_) AllReadyH.nil
   clear hHeld
   go_simp
   refine hK.out _ _ trivial (fun hHeld => ?_)
   clear hK K
   try simp only [Act.put, sA, sB, sC]
   refine tk (i := 8) (oi := ⟨some 47, .indexAddr 32 (.tmp 41) (.tmp 46), _, _, _, _⟩) (v := ?va28) rfl (Or.inl ⟨by rfl, ?ya28⟩) hHeld ?ra28
   case ya28 => (intro w hSw; clear hSw; go_simp; (try with_reducible rfl))
   try simp only [Act.put, sA, sB, sC]
   refine wpAnyH_ready (rs := [9]) (by kernel_rfl) (by simp) ?_
   refine AllReadyH.cons rfl (fun K hK => ?_) AllReadyH.nil
   clear hHeld
   go_simp
   refine hK.out _ _ trivial (fun hHeld => ?_)
   clear hK K
   try simp only [Act.put, sA, sB, sC]
   refine wpAnyH_ready (rs := [10]) (by kernel_rfl) (by simp) ?_
   refine AllReadyH.cons rfl (fun K hK => ?_) AllReadyH.nil
   clear s0 s1 n0 n1 n2 n3 hwr hHeld
   go_simp
   have CI := kept (run_inst wB V2 g R f n Kc ty s.tick.next x HXO.out HXN.out HVD.out HGN.out HXA.out (by omega))
   rw [HEXA.out] at CI
   (with_reducible refine CI.out.mono ?_)
   rintro e wx ⟨rfl, R', hR⟩
   show K _ _
   have HR := kept hR
   clear hR
   refine hK.out _ _ trivial (fun hHeld => ?_)
   clear hK K
   try simp only [Act.put, sA, sB, sC]
   refine wpAnyH_done (by kernel_rfl) ?_ _
   clear hHeld
   go_wp2
   first | (change bodyPost Tryz.prog Tryz.f27 _ Exit.normal _ _; refine bodyPost_end (v := .tuple #[]) (by have h : Tryz.f27.results = #[] := (by kernel_rfl); simp [results, h]) rfl ⟨rfl, R', ?_⟩) | (change bodyPost Tryz.prog Tryz.f27 _ Exit.ret _ _; refine bodyPost_ret (v := .tuple #[]) (by have h : Tryz.f27.results = #[] := (by kernel_rfl); simp [results, h]) rfl ⟨rfl, R', ?_⟩)
   rw [HE2.out]
   exact HR.out
  exact AllReadyH.nil
 ·have HE2 := kept (HE.out.trans (if_neg hp))
  obtain ⟨t0, t1, t2, t3, t4, t5, t6⟩ := BB.out.c7
  simp at t0 t1 t2 t3 t4 t5 t6
  have HTZ := kept (HT.out.keep ((Keeps.refl Y []).alloc (.cells #[.int .i64 bm.kind, .int .i64 bm.var, .int .i64 bm.to0, .int .i64 bm.to1] 36)))
  have BZ := kept (Blk.new Y 36 #[.int .i64 bm.kind, .int .i64 bm.var, .int .i64 bm.to0, .int .i64 bm.to1])
  go_upto_region 7 with (fail)
  generalize hZ : Y.alloc (.cells #[.int .i64 bm.kind, .int .i64 bm.var, .int .i64 bm.to0, .int .i64 bm.to1] 36) = Z at *
  generalize Y.heap.size = zg at *
  clear hZ t0 t1 t2 t3 t4 t5 t6 BB HT HKN
  have HTD := kept (HTZ.out.keep ((Keeps.refl Z []).drew))
  have BZD := kept (BZ.out.keep ((Keeps.refl Z []).drew) (by simp))
  obtain ⟨z0, z1, z2, z3⟩ := BZ.out.c4
  obtain ⟨y0, y1, y2, y3⟩ := BZD.out.c4
  simp at z0 z1 z2 z3 y0 y1 y2 y3
  rcases HOk.out.kind with hk | hk | hk
  ·have hj := HOk.out.jump hk
   obtain ⟨t0, e0⟩ : ∃ k : Nat, bm.to0 = k := ⟨bm.to0.toNat, by omega⟩
   have HL0 := kept (show leadsM bm (t0 : Int) = true by unfold leadsM; rw [hk, e0]; simp)
   have hb0 : t0 < nb := by omega
   have ht0 : t0 < f.blocks.2.length := by have := HNB.out; omega
   rw [e0] at z2 y2
   have HE3 := kept (HE2.out.trans ((if_neg (by rw [hk]; decide)).trans (if_pos (Or.inl hk))))
   rw [hk] at z0 y0
   clear hk hj
   go_wp2
   go_quiet (fail)
   generalize hQ : Z.drewN _ = Q at *
   have KQ : Keeps Z Q [] := by rw [← hQ]; exact (Keeps.refl Z []).drewN _
   have HTQ := kept (HTZ.out.keep KQ)
   have z2 := KQ.cellOf z2
   clear hQ KQ
   go_wp2_with (first | (go_at_call 50; go_must (refine (enter_phis wB _ g R f n s.tick HTQ.out HF.out t0 ht0 hn (HPl.out _ hb0) (HPh.out _ hb0 HL0.out)).mono ?_; rintro e wx ⟨rfl, R', hR⟩)))
   first | (change bodyPost Tryz.prog Tryz.f27 _ Exit.normal _ _; refine bodyPost_end (v := .tuple #[]) (by have h : Tryz.f27.results = #[] := (by kernel_rfl); simp [results, h]) rfl ⟨rfl, R', ?_⟩) | (change bodyPost Tryz.prog Tryz.f27 _ Exit.ret _ _; refine bodyPost_ret (v := .tuple #[]) (by have h : Tryz.f27.results = #[] := (by kernel_rfl); simp [results, h]) rfl ⟨rfl, R', ?_⟩)
   rw [HE3.out]
   rw [e0, show ((t0 : Nat) : Int).toNat = t0 from rfl]
   exact hR
  ·obtain ⟨g0, g1, g2, g3, hv0, hv1, _⟩ := HOk.out.iff hk
   obtain ⟨p, ep⟩ : ∃ k : Nat, bm.var = k := ⟨bm.var.toNat, by omega⟩
   have hpn : p < n := by omega
   rw [ep] at z1 y1
   have HE3 := kept (HE2.out.trans (if_neg (by rw [hk]; decide)))
   rw [ep] at HE3
   obtain ⟨t0, e0⟩ : ∃ k : Nat, bm.to0 = k := ⟨bm.to0.toNat, by omega⟩
   have HL0 := kept (show leadsM bm (t0 : Int) = true by unfold leadsM; rw [hk, e0]; simp)
   have hb0 : t0 < nb := by omega
   have ht0 : t0 < f.blocks.2.length := by have := HNB.out; omega
   rw [e0] at z2 y2
   obtain ⟨t1, e1⟩ : ∃ k : Nat, bm.to1 = k := ⟨bm.to1.toNat, by omega⟩
   have HL1 := kept (show leadsM bm (t1 : Int) = true by unfold leadsM; rw [hk, e1]; simp)
   have hb1 : t1 < nb := by omega
   have ht1 : t1 < f.blocks.2.length := by have := HNB.out; omega
   rw [e1] at z3 y3
   have HKk := kept hk
   rw [hk] at z0 y0
   clear hk hv0 hv1 ep g0 g1 g2 g3
   have c4 := HTZ.out.c4
   have b0 : Z.cell? ⟨R.gb, p, none⟩ = some (.bool (s.B (p : Nat))) := HTZ.out.bool_at hpn
   generalize hBp : s.B (p : Nat) = Bp at *
   clear hBp
   cases Bp
   ·have HE4 := kept (HE3.out.trans (if_neg (by rw [HKk.out]; simp)))
    go_wp2
    go_quiet (fail)
    generalize hQ : Z.drewN _ = Q at *
    have KQ : Keeps Z Q [] := by rw [← hQ]; exact (Keeps.refl Z []).drewN _
    have HTQ := kept (HTZ.out.keep KQ)
    have z3 := KQ.cellOf z3
    clear hQ KQ
    go_wp2_with (first | (go_at_call 50; go_must (refine (enter_phis wB _ g R f n s.tick HTQ.out HF.out t1 ht1 hn (HPl.out _ hb1) (HPh.out _ hb1 HL1.out)).mono ?_; rintro e wx ⟨rfl, R', hR⟩)))
    first | (change bodyPost Tryz.prog Tryz.f27 _ Exit.normal _ _; refine bodyPost_end (v := .tuple #[]) (by have h : Tryz.f27.results = #[] := (by kernel_rfl); simp [results, h]) rfl ⟨rfl, R', ?_⟩) | (change bodyPost Tryz.prog Tryz.f27 _ Exit.ret _ _; refine bodyPost_ret (v := .tuple #[]) (by have h : Tryz.f27.results = #[] := (by kernel_rfl); simp [results, h]) rfl ⟨rfl, R', ?_⟩)
    rw [HE4.out]
    rw [e1, show ((t1 : Nat) : Int).toNat = t1 from rfl]
    exact hR
   ·have HE4 := kept (HE3.out.trans (if_pos (Or.inr (by first | rfl | trivial))))
    go_wp2
    go_quiet (fail)
    generalize hQ : Z.drewN _ = Q at *
    have KQ : Keeps Z Q [] := by rw [← hQ]; exact (Keeps.refl Z []).drewN _
    have HTQ := kept (HTZ.out.keep KQ)
    have z2 := KQ.cellOf z2
    clear hQ KQ
    go_wp2_with (first | (go_at_call 50; go_must (refine (enter_phis wB _ g R f n s.tick HTQ.out HF.out t0 ht0 hn (HPl.out _ hb0) (HPh.out _ hb0 HL0.out)).mono ?_; rintro e wx ⟨rfl, R', hR⟩)))
    first | (change bodyPost Tryz.prog Tryz.f27 _ Exit.normal _ _; refine bodyPost_end (v := .tuple #[]) (by have h : Tryz.f27.results = #[] := (by kernel_rfl); simp [results, h]) rfl ⟨rfl, R', ?_⟩) | (change bodyPost Tryz.prog Tryz.f27 _ Exit.ret _ _; refine bodyPost_ret (v := .tuple #[]) (by have h : Tryz.f27.results = #[] := (by kernel_rfl); simp [results, h]) rfl ⟨rfl, R', ?_⟩)
    rw [HE4.out]
    rw [e0, show ((t0 : Nat) : Int).toNat = t0 from rfl]
    exact hR
  ·obtain ⟨hv0, hv1, _⟩ := HOk.out.ret hk
   obtain ⟨p, ep⟩ : ∃ k : Nat, bm.var = k := ⟨bm.var.toNat, by omega⟩
   have hpn : p < n := by omega
   rw [ep] at z1 y1
   have HE3 := kept (HE2.out.trans (if_pos hk))
   rw [ep] at HE3
   rw [hk] at z0 y0
   clear hk hv0 hv1 ep
   have c3 := HTZ.out.c3
   have c3d := HTD.out.c3
   have i0 : Z.cell? ⟨R.gi, p, none⟩ = some (.int .i64 (s.I (p : Nat))) := HTZ.out.int_at hpn
   have i0d : (World.drew Z).cell? ⟨R.gi, p, none⟩ = some (.int .i64 (s.I (p : Nat))) := HTD.out.int_at hpn
   have c10 : Z.cell? ⟨g, 10, none⟩ = some (.int .i64 s.out.value) := (HTZ.out.blk.cell 10).trans rfl
   have c10d : (World.drew Z).cell? ⟨g, 10, none⟩ = some (.int .i64 s.out.value) := (HTD.out.blk.cell 10).trans rfl
   have f10 := HTZ.out.fz 10
   have f10d := HTD.out.fz 10
   have HV := kept (HTZ.out.turn (keeps_set1 Z g 10 (.int .i64 (s.I (p : Nat)))) (by rw [← stateC_val R f n s.tick]; exact HTZ.out.blk.set_ 10 _) (s' := s.tick.val (s.I (p : Nat))) rfl rfl rfl rfl rfl HTZ.out.ck)
   have HVD := kept (HV.out.keep ((Keeps.refl _ []).drew))
   generalize hIp : s.I (p : Nat) = Ip at *
   go_wp2
   go_region
   go_wp2_with (first | (go_at_call 49; go_must (refine (end84_any wB _ g R f n (s.tick.val Ip) 0 HVD.out).mono ?_; rintro e w3 ⟨rfl, HX⟩)))
   first | (change bodyPost Tryz.prog Tryz.f27 _ Exit.normal _ _; refine bodyPost_end (v := .tuple #[]) (by have h : Tryz.f27.results = #[] := (by kernel_rfl); simp [results, h]) rfl ⟨rfl, R, ?_⟩) | (change bodyPost Tryz.prog Tryz.f27 _ Exit.ret _ _; refine bodyPost_ret (v := .tuple #[]) (by have h : Tryz.f27.results = #[] := (by kernel_rfl); simp [results, h]) rfl ⟨rfl, R, ?_⟩)
   rw [HE3.out]
   exact HX
end Go.Proofs.YtjllbchfojonhaaGreatDoor
