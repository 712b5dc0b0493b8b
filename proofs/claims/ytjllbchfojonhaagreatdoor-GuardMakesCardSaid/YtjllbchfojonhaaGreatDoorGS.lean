/- All checks of a program, each once (guard.collect); the walk. -/
import Derived.Test.YtjllbchfojonhaaGreatDoorGO
import Derived.Test.YtjllbchfojonhaaGreatDoorGN
import Derived.Test.YtjllbchfojonhaaGreatDoorGK
import Derived.Deep.CutBlock
import Derived.Deep.Cut
namespace Go.Proofs.YtjllbchfojonhaaGreatDoor
open Go.RowKit
set_option linter.unusedVariables false
set_option linter.unusedSimpArgs false
def preI (f : FuncM) (k j : Nat) : List InstM := (f.blocks.2.take k).flatMap (fun b => b.insts.2) ++ f.blocks.2[k]!.insts.2.take j
section
variable {f : FuncM} {k j : Nat}
theorem preI_zero : preI f 0 0 = [] := by simp [preI]
theorem preI_snoc (hj : j < f.blocks.2[k]!.insts.2.length) : preI f k (j + 1) = preI f k j ++ [f.blocks.2[k]!.insts.2[j]!] := by
 unfold preI
 rw [List.take_succ_eq_append_getElem hj, getElem!_pos _ j hj, List.append_assoc]
theorem preI_next (hk : k < f.nb) : preI f (k + 1) 0 = preI f k f.blocks.2[k]!.insts.2.length := by
 unfold preI
 have hk' : k < f.blocks.2.length := hk
 rw [List.take_zero, List.append_nil, List.take_succ_eq_append_getElem hk', List.flatMap_append, List.take_length, getElem!_pos _ k hk']; simp
theorem preI_end : preI f f.nb 0 = instsF f := by
 unfold preI instsF
 rw [List.take_zero, List.append_nil, show f.nb = f.blocks.2.length from rfl, List.take_length]
theorem preI_pre (hk : k ≤ f.nb) (hj : k = f.nb → j = 0) : ∃ r, instsF f = preI f k j ++ r := by
 rcases Nat.lt_or_ge k f.nb with h | h
 ·have hk' : k < f.blocks.2.length := h
  refine ⟨f.blocks.2[k]!.insts.2.drop j ++ (f.blocks.2.drop (k + 1)).flatMap (fun b => b.insts.2), ?_⟩
  unfold preI instsF
  have e : f.blocks.2 = f.blocks.2.take k ++ f.blocks.2[k]! :: f.blocks.2.drop (k + 1) := by
   rw [getElem!_pos _ k hk', ← List.drop_eq_getElem_cons hk', List.take_append_drop]
  conv => lhs; rw [e]
  rw [List.flatMap_append, List.flatMap_cons, List.append_assoc, ← List.append_assoc (List.take j _), List.take_append_drop]
 ·obtain rfl : k = f.nb := by omega
  rw [hj rfl]
  exact ⟨[], by rw [preI_end, List.append_nil]⟩
theorem preI_mem (hk : k ≤ f.nb) (hj : k = f.nb → j = 0) {x : InstM} (hx : x ∈ preI f k j) : x ∈ instsF f := by
 obtain ⟨r, e⟩ := preI_pre hk hj
 rw [e]; exact List.mem_append_left _ hx
theorem preI_len (hk : k ≤ f.nb) (hj : k = f.nb → j = 0) : (preI f k j).length ≤ (instsF f).length := by
 obtain ⟨r, e⟩ := preI_pre hk hj
 rw [e, List.length_append]; omega
theorem collect_len : ∀ l : List InstM, (collectI l).length ≤ l.length :=
 snoc_ind (Nat.le_refl _) fun l x ih => by
  rw [collect_snoc]
  unfold addC
  split
  ·simp only [List.length_append, List.length_singleton]; omega
  ·simp only [List.length_append, List.length_singleton]; omega
end
theorem inst_args {w : World} {f : FuncM} (h : FuncAt w f) {x : InstM} (hx : x ∈ instsF f) : IntsAt w x.args := by
 obtain ⟨b, hb, hx⟩ := List.mem_flatMap.1 hx
 exact (h.block b hb).inst x hx
theorem coll_args {w : World} {f : FuncM} (h : FuncAt w f) {k j : Nat} (hk : k ≤ f.nb) (hj : k = f.nb → j = 0) {d : CheckM} (hd : d ∈ collectI (preI f k j)) : IntsAt w d.args := by
 obtain ⟨_, x, hx, rfl⟩ := collect_of _ d hd
 exact inst_args h (preI_mem hk hj hx)
theorem cellsC_snoc (cs : List CheckM) (c : CheckM) : cellsC (cs ++ [c]) = cellsC cs ++ c.cells := by unfold cellsC; simp
theorem info49 : (Tryz.prog.info? 49).map (fun i => (i.zero, i.size, i.bytes)) = some (some (.agg #[.int .i64 0, .slice none 0 0]), 2, 32) := by kernel_rfl
theorem checks_ok {f : FuncM} {b : Nat} (hb : b < f.nb) : ChecksOK (collectF f) f.blocks.2[b]! :=
 ⟨fun c i j hi hj h1 h2 => collect_uniq hi hj h1 h2, fun c hc => (collect_of _ c hc).1, fun x hx hc => collect_mem _ x (List.mem_flatMap.2 ⟨_, bang_mem hb, hx⟩) hc⟩
set_option maxRecDepth 100000 in
set_option maxHeartbeats 200000000 in
theorem collect_any (f : FuncM) (w : World) (hf : FuncAt w f) (hn : (instsF f).length ≤ 100000) (hnb : f.nb ≤ 1000) : Calls Tryz.prog 58 #[f.val] w fun e w' => (∃ v, e = .returned v ∧ w'.ownsRow w.heap.size 49 2 v (collectF f).length (cellsC (collectF f))) ∧ Keeps w w' [] := by
 obtain ⟨i49, hi, he⟩ := Option.map_eq_some_iff.1 info49
 simp only [Prod.mk.injEq] at he
 obtain ⟨hz0, hz1, hz2⟩ := he
 obtain ⟨a0, c0, a1, c1, a2, c2, e0, e1, e2, hval, h1, HF, HC0, HC1, HC2, HNV, HNP, HNB⟩ := fopen hf
 rw [hval]
 clear hval h1 e0 e1 e2 hf HC0 HC1
 have HFN := kept (show collectF f = collectI (preI f f.nb 0) by rw [preI_end]; rfl)
 generalize collectF f = FIN at *
 have P0 := kept (preI_zero (f := f))
 have PN := kept (fun k (hk : k < f.nb) => preI_next hk)
 have PL := kept (fun k j (hk : k ≤ f.nb) (hj : k = f.nb → j = 0) => Nat.le_trans (collect_len (preI f k j)) (Nat.le_trans (preI_len hk hj) hn))
 have PS := kept (fun (k j : Nat) (hj : j < f.blocks.2[k]!.insts.2.length) => preI_snoc (f := f) hj)
 obtain ⟨HK, Bl⟩ := fbox w 26 #[.slice a0 f.nv c0, .slice a1 f.np c1, .slice a2 f.nb c2]
 obtain ⟨l0, l1, l2⟩ := Bl.out.c3
 simp at l0 l1 l2
 go_enter Tryz.func58, Tryz.ntmps58
 go_upto_region 1 with (fail)
 have hszw : w.heap.size ≤ (w.alloc (.cells #[.slice a0 f.nv c0, .slice a1 f.np c1, .slice a2 f.nb c2] 26)).heap.size := by show _ ≤ (Array.push _ _).size; simp [Array.size_push]
 clear l0 l1 l2
 generalize (w.alloc (.cells #[.slice a0 f.nv c0, .slice a1 f.np c1, .slice a2 f.nb c2] 26)) = W0 at *
 have Bl_W0 := Bl
 have TW0 := HK
 clear HK
 have HK := kept (Keeps.refl W0 [])
 obtain ⟨l0, l1, l2⟩ := Bl.out.c3
 simp at l0 l1 l2
 have HSW := kept hszw
 clear hszw
 go_wp2
 go_loopw [3, 12] (fun a' i' wx => ∃ k : Nat, k ≤ f.nb ∧ i' = .int .i64 k ∧ wx.ownsRow W0.heap.size 49 2 a' (collectI (preI f k 0)).length (cellsC (collectI (preI f k 0))) ∧ Keeps W0 wx []) (fun _ i' _ => f.nb - (intOf i').toNat)
 case atStart => exact ⟨0, Nat.zero_le _, rfl, by rw [P0.out]; exact World.ownsRow_nil _ _ _ _, HK.out⟩
 case round =>
  obtain ⟨k, hk, rfl, hO, hr⟩ := hrel
  clear l0 l1 l2
  clear Bl HK
  have HK := kept hr
  have Bl := kept (Bl_W0.out.keep hr (by simp))
  clear hr
  obtain ⟨l0, l1, l2⟩ := Bl.out.c3
  simp at l0 l1 l2
  have OO := kept hO
  clear hO
  obtain ⟨oa, oc, rfl, -, -⟩ := own_form OO.out
  by_cases hlk : k < f.nb
  ·have hlkz : (k : Int) < (f.nb : Int) := by omega
   obtain ⟨yb, yo, e8, hyb, hbc⟩ := HC2.out k (by rw [HNB.out]; exact hlk)
   obtain rfl := e8
   have HBA := kept (HF.out.block _ (bang_mem (l := f.blocks.2) (k := k) hlk))
   have PNk := kept (PN.out k hlk)
   have PSk := kept (fun j => PS.out k j)
   have PLk := kept (fun j => PL.out k j (by omega) (fun e => absurd e (by omega)))
   clear PN PS PL
   have y0 := (TW0.out.and_then HK.out).cellOf (hbc 0 _ rfl)
   have y1 := (TW0.out.and_then HK.out).cellOf (hbc 1 _ rfl)
   have y2 := (TW0.out.and_then HK.out).cellOf (hbc 2 _ rfl)
   have y3 := (TW0.out.and_then HK.out).cellOf (hbc 3 _ rfl)
   have y4 := (TW0.out.and_then HK.out).cellOf (hbc 4 _ rfl)
   have y5 := (TW0.out.and_then HK.out).cellOf (hbc 5 _ rfl)
   have y6 := (TW0.out.and_then HK.out).cellOf (hbc 6 _ rfl)
   simp only [Nat.add_zero] at y0
   clear hbc HC2
   obtain ⟨qa, qc, e7, hyl1, hym, hic⟩ := HBA.out.insts.open_
   have hyB : f.blocks.2[k]!.insts.2.length ≤ 9223372036854775807 := by unfold maxLen at hym; omega
   clear hyl1 hym
   rw [e7] at y2
   obtain ⟨pa, pc, e6, -, -, -⟩ := HBA.out.phis.open_
   rw [e6] at y1
   clear e6
   have HIC := kept hic
   clear hic e7
   have HCA := kept (fun j d (hd : d ∈ collectI (preI f k j)) => coll_args HF.out (k := k) (j := j) (by omega) (fun e => absurd e (by omega)) hd)
   generalize f.blocks.2[k]! = y at *
   generalize hyn : y.name = yn at *
   generalize hyp : y.phis.2.length = pn at *
   generalize hyk : y.kind = yk at *
   generalize hyv : y.var = yv at *
   generalize hy0 : y.to0 = yt0 at *
   generalize hy1 : y.to1 = yt1 at *
   clear hyn hyp hyk hyv hy0 hy1
   generalize hyl : y.insts.2.length = yil at *
   have HYL := kept hyl
   clear hyl
   go_upto_region 5 with (fail)
   clear y0 y1 y2 y3 y4 y5 y6
   have kx : Keeps wr (wr.alloc (.cells #[.string yn, .slice pa pn pc, .slice qa yil qc, .int .i64 yk, .int .i64 yv, .int .i64 yt0, .int .i64 yt1] 38)) [] := (Keeps.refl wr []).alloc _
   replace OO := kept (own_keep OO.out kx (by simp))
   clear kx
   clear l0 l1 l2
   have bmx := Blk.new wr 38 #[.string yn, .slice pa pn pc, .slice qa yil qc, .int .i64 yk, .int .i64 yv, .int .i64 yt0, .int .i64 yt1]
   have k3 : Keeps wr (wr.alloc (.cells #[.string yn, .slice pa pn pc, .slice qa yil qc, .int .i64 yk, .int .i64 yv, .int .i64 yt0, .int .i64 yt1] 38)) [] := (Keeps.refl wr []).alloc _
   replace Bl := kept (Bl.out.keep k3 (by simp))
   replace HK := kept (HK.out.and_then k3)
   have Bx := kept bmx
   clear k3 bmx
   obtain ⟨l0, l1, l2⟩ := Bl.out.c3
   obtain ⟨x0, x1, x2, x3, x4, x5, x6⟩ := Bx.out.c7
   simp at l0 l1 l2 x0 x1 x2 x3 x4 x5 x6
   generalize hWX : (wr.alloc (.cells #[.string yn, .slice pa pn pc, .slice qa yil qc, .int .i64 yk, .int .i64 yv, .int .i64 yt0, .int .i64 yt1] 38)) = W4 at *
   clear hWX
   generalize wr.heap.size = bx at *
   clear l0 l1 l2 x0 x1 x2 x3 x4 x5 x6
   obtain ⟨l0, l1, l2⟩ := Bl.out.c3
   obtain ⟨x0, x1, x2, x3, x4, x5, x6⟩ := Bx.out.c7
   simp at l0 l1 l2 x0 x1 x2 x3 x4 x5 x6
   go_wp2
   go_loopw [3, 19] (fun a' i' wx => ∃ j : Nat, j ≤ yil ∧ i' = .int .i64 j ∧ wx.ownsRow W0.heap.size 49 2 a' (collectI (preI f k j)).length (cellsC (collectI (preI f k j))) ∧ Blk wx bx 38 #[.string yn, .slice pa pn pc, .slice qa yil qc, .int .i64 yk, .int .i64 yv, .int .i64 yt0, .int .i64 yt1] ∧ Keeps W0 wx []) (fun _ i' _ => yil - (intOf i').toNat)
   case atStart => exact ⟨0, Nat.zero_le _, rfl, OO.out, Bx.out, HK.out⟩
   case round =>
    obtain ⟨j, hj, rfl, hO, hX, hr⟩ := hrel
    clear OO
    clear l0 l1 l2 x0 x1 x2 x3 x4 x5 x6
    clear Bl Bx HK
    have HK := kept hr
    have Bl := kept (Bl_W0.out.keep hr (by simp))
    have Bx := kept hX
    clear hr hX
    obtain ⟨l0, l1, l2⟩ := Bl.out.c3
    obtain ⟨x0, x1, x2, x3, x4, x5, x6⟩ := Bx.out.c7
    simp at l0 l1 l2 x0 x1 x2 x3 x4 x5 x6
    have OO := kept hO
    clear hO
    obtain ⟨oa, oc, rfl, -, -⟩ := own_form OO.out
    by_cases hlj : j < yil
    ·have hljz : (j : Int) < (yil : Int) := by omega
     obtain ⟨ib, io, e8, hib, hcell⟩ := HIC.out j (by first | exact hlj | (rw [HYL.out]; exact hlj))
     obtain rfl := e8
     have hxa := HBA.out.inst _ (bang_mem (l := y.insts.2) (k := j) (by first | exact hlj | (rw [HYL.out]; exact hlj)))
     have PSj := kept (PSk.out j (by first | exact hlj | (rw [HYL.out]; exact hlj)))
     have PLj := kept (PLk.out j)
     have HCj := kept (HCA.out j)
     clear PSk PLk HCA
     have n0 := (TW0.out.and_then HK.out).cellOf (hcell 0 _ rfl)
     have n1 := (TW0.out.and_then HK.out).cellOf (hcell 1 _ rfl)
     have n2 := (TW0.out.and_then HK.out).cellOf (hcell 2 _ rfl)
     have n3 := (TW0.out.and_then HK.out).cellOf (hcell 3 _ rfl)
     simp only [Nat.add_zero] at n0
     obtain ⟨ua, va1, e1, -, -, -⟩ := IntsAt.open_ hxa
     rw [e1] at n2
     have HXA := kept (show IntsAt w y.insts.2[j]!.args from hxa)
     have CA := kept (fun W v (h1 : IntsAt W y.insts.2[j]!.chk.args) h2 h3 => any_checks y.insts.2[j]!.chk v (collectI (preI f k j)) W h1 h2 h3)
     have HCE := kept (show y.insts.2[j]!.chk.args.1 = .slice ua y.insts.2[j]!.args.2.length va1 from e1)
     have HCO := kept (show y.insts.2[j]!.chk.op = y.insts.2[j]!.op from rfl)
     have HCC := kept (show y.insts.2[j]!.chk.cells = [.int .i64 y.insts.2[j]!.op, .slice ua y.insts.2[j]!.args.2.length va1] by unfold CheckM.cells; rw [HCE.out]; rfl)
     rw [HCE.out, HCO.out] at CA
     have HAD := kept (show collectI (preI f k (j + 1)) = addC (collectI (preI f k j)) y.insts.2[j]! by rw [PSj.out, collect_snoc])
     clear PSj e1 hcell HIC hxa HCO HCE
     generalize y.insts.2[j]! = x at *
     have HXC := kept (show IntsAt w x.chk.args from HXA.out)
     have HAC := kept (show addC (collectI (preI f k j)) x = if (chkB x.op && !((collectI (preI f k j)).any (sameB x.chk))) = true then collectI (preI f k j) ++ [x.chk] else collectI (preI f k j) from rfl)
     generalize collectI (preI f k j) = CS at *
     go_upto_region 8 with (fail)
     clear n0 n1 n2 n3
     replace OO := kept (own_keep OO.out ((Keeps.refl wr []).alloc (.cells #[.int .i64 x.op, .int .i64 x.dst, .slice ua x.args.2.length va1, .int .i64 x.num] 43)) (by simp))
     clear l0 l1 l2 x0 x1 x2 x3 x4 x5 x6
     have bmx := Blk.new wr 43 #[.int .i64 x.op, .int .i64 x.dst, .slice ua x.args.2.length va1, .int .i64 x.num]
     have k3 : Keeps wr (wr.alloc (.cells #[.int .i64 x.op, .int .i64 x.dst, .slice ua x.args.2.length va1, .int .i64 x.num] 43)) [] := (Keeps.refl wr []).alloc _
     replace Bl := kept (Bl.out.keep k3 (by simp))
     replace Bx := kept (Bx.out.keep k3 (by simp))
     replace HK := kept (HK.out.and_then k3)
     have Bi := kept bmx
     clear k3 bmx
     obtain ⟨l0, l1, l2⟩ := Bl.out.c3
     obtain ⟨x0, x1, x2, x3, x4, x5, x6⟩ := Bx.out.c7
     obtain ⟨i0, i1, i2, i3⟩ := Bi.out.c4
     simp at l0 l1 l2 x0 x1 x2 x3 x4 x5 x6 i0 i1 i2 i3
     generalize hWX : (wr.alloc (.cells #[.int .i64 x.op, .int .i64 x.dst, .slice ua x.args.2.length va1, .int .i64 x.num] 43)) = W5 at *
     clear hWX
     generalize wr.heap.size = bi at *
     clear l0 l1 l2 x0 x1 x2 x3 x4 x5 x6 i0 i1 i2 i3
     obtain ⟨l0, l1, l2⟩ := Bl.out.c3
     obtain ⟨x0, x1, x2, x3, x4, x5, x6⟩ := Bx.out.c7
     obtain ⟨i0, i1, i2, i3⟩ := Bi.out.c4
     simp at l0 l1 l2 x0 x1 x2 x3 x4 x5 x6 i0 i1 i2 i3
     go_upto_region 9 with (fail)
     replace OO := kept (own_keep OO.out ((Keeps.refl W5 []).alloc (.cells #[.int .i64 x.op, .slice ua x.args.2.length va1] 49)) (by simp))
     clear l0 l1 l2 x0 x1 x2 x3 x4 x5 x6 i0 i1 i2 i3
     have bmx := Blk.new W5 49 #[.int .i64 x.op, .slice ua x.args.2.length va1]
     have k3 : Keeps W5 (W5.alloc (.cells #[.int .i64 x.op, .slice ua x.args.2.length va1] 49)) [] := (Keeps.refl W5 []).alloc _
     replace Bl := kept (Bl.out.keep k3 (by simp))
     replace Bx := kept (Bx.out.keep k3 (by simp))
     replace Bi := kept (Bi.out.keep k3 (by simp))
     replace HK := kept (HK.out.and_then k3)
     have Bc := kept bmx
     clear k3 bmx
     obtain ⟨l0, l1, l2⟩ := Bl.out.c3
     obtain ⟨x0, x1, x2, x3, x4, x5, x6⟩ := Bx.out.c7
     obtain ⟨i0, i1, i2, i3⟩ := Bi.out.c4
     obtain ⟨c0, c1⟩ := Bc.out.c2
     simp at l0 l1 l2 x0 x1 x2 x3 x4 x5 x6 i0 i1 i2 i3 c0 c1
     generalize hWX : (W5.alloc (.cells #[.int .i64 x.op, .slice ua x.args.2.length va1] 49)) = W6 at *
     clear hWX
     generalize W5.heap.size = bc at *
     clear l0 l1 l2 x0 x1 x2 x3 x4 x5 x6 i0 i1 i2 i3 c0 c1
     obtain ⟨l0, l1, l2⟩ := Bl.out.c3
     obtain ⟨x0, x1, x2, x3, x4, x5, x6⟩ := Bx.out.c7
     obtain ⟨i0, i1, i2, i3⟩ := Bi.out.c4
     obtain ⟨c0, c1⟩ := Bc.out.c2
     simp at l0 l1 l2 x0 x1 x2 x3 x4 x5 x6 i0 i1 i2 i3 c0 c1
     have CK := kept (check_any x.op)
     generalize hxal : x.args.2.length = xal at *
     clear hxal
     cases hck : chkB x.op with
     | false =>
      rw [hck] at CK HAC
      clear hck CA
      go_wp2_with (first | (go_at_call 67; refine (CK.out _).mono ?_; rintro e w3 ⟨rfl, rfl⟩))
      go_roundw
      case rel => exact ⟨j + 1, by omega, by go_num, by rw [HAD.out, HAC.out, if_neg (by simp)]; exact OO.out, Bx.out, HK.out⟩
      case measure => simp [intOf]; omega
     | true =>
      rw [hck] at CK HAC
      clear hck
      generalize CS.any (sameB x.chk) = an at *
      cases an with
      | true =>
       go_wp2_with (first | (go_at_call 67; refine (CK.out _).mono ?_; rintro e w3 ⟨rfl, rfl⟩) | (go_at_call 98; refine (CA.out _ _ (Row.keep HXC.out (TW0.out.and_then HK.out)) (row_flat (cellsC_len _) (by omega) OO.out) (fun d hd => Row.keep (HCj.out d hd) (TW0.out.and_then HK.out))).mono ?_; rintro e w3 ⟨rfl, k3⟩; replace OO := kept (own_keep OO.out k3 (by simp)); clear l0 l1 l2 x0 x1 x2 x3 x4 x5 x6 i0 i1 i2 i3 c0 c1; replace Bl := kept (Bl.out.keep k3 (by simp)); replace Bx := kept (Bx.out.keep k3 (by simp)); replace Bi := kept (Bi.out.keep k3 (by simp)); replace Bc := kept (Bc.out.keep k3 (by simp)); replace HK := kept (HK.out.and_then k3); obtain ⟨l0, l1, l2⟩ := Bl.out.c3; obtain ⟨x0, x1, x2, x3, x4, x5, x6⟩ := Bx.out.c7; obtain ⟨i0, i1, i2, i3⟩ := Bi.out.c4; obtain ⟨c0, c1⟩ := Bc.out.c2; simp at l0 l1 l2 x0 x1 x2 x3 x4 x5 x6 i0 i1 i2 i3 c0 c1; clear k3))
       go_roundw
       case rel => exact ⟨j + 1, by omega, by go_num, by rw [HAD.out, HAC.out, if_neg (by simp)]; exact OO.out, Bx.out, HK.out⟩
       case measure => simp [intOf]; omega
      | false =>
       go_upto_region 10 with (first | (go_at_call 67; refine (CK.out _).mono ?_; rintro e w3 ⟨rfl, rfl⟩) | (go_at_call 98; refine (CA.out _ _ (Row.keep HXC.out (TW0.out.and_then HK.out)) (row_flat (cellsC_len _) (by omega) OO.out) (fun d hd => Row.keep (HCj.out d hd) (TW0.out.and_then HK.out))).mono ?_; rintro e w3 ⟨rfl, k3⟩; replace OO := kept (own_keep OO.out k3 (by simp)); clear l0 l1 l2 x0 x1 x2 x3 x4 x5 x6 i0 i1 i2 i3 c0 c1; replace Bl := kept (Bl.out.keep k3 (by simp)); replace Bx := kept (Bx.out.keep k3 (by simp)); replace Bi := kept (Bi.out.keep k3 (by simp)); replace Bc := kept (Bc.out.keep k3 (by simp)); replace HK := kept (HK.out.and_then k3); obtain ⟨l0, l1, l2⟩ := Bl.out.c3; obtain ⟨x0, x1, x2, x3, x4, x5, x6⟩ := Bx.out.c7; obtain ⟨i0, i1, i2, i3⟩ := Bi.out.c4; obtain ⟨c0, c1⟩ := Bc.out.c2; simp at l0 l1 l2 x0 x1 x2 x3 x4 x5 x6 i0 i1 i2 i3 c0 c1; clear k3))
       have HSZ := kept HK.out.size
       go_wp2_with (first | (at_builtin; go_must (refine wpList_append_row rfl (.tmp 38) (.tmp 40) 29 rfl W0.heap.size 49 i49 (.agg #[.int .i64 0, .slice none 0 0]) 2 32 Tryz.underlying29 hi hz0 hz1 hz2 rfl (by decide) (.slice oa CS.length oc) CS.length (cellsC CS) rfl (own_keep OO.out ((Keeps.refl w3 []).alloc _) (by simp)) (.slice (some ⟨w3.heap.size, 0, none⟩) 1 1) ([x.chk].map CheckM.cells) rfl (by rw [List.map_singleton, HCC.out]; exact row_single (Blk.new w3 49 _)) (cellsC_len _) (by rw [List.map_singleton, HCC.out]; intro e he u hu; rw [List.mem_singleton.1 he] at hu; rcases List.mem_cons.1 hu with h | h; (rw [h]; rfl); (rw [List.mem_singleton.1 h]; rfl)) (by simp only [List.length_map, List.length_singleton]; have h9 := PLj.out; unfold maxLen; omega) (by simp only [List.length_map, List.length_singleton]; have h9 := PLj.out; omega) (by rw [size_alloc1]; have h9 := (HSZ.out); omega) ?_); intro v1 w4 hown hgrow; have hBx := kept (blk_grown Bx.out OO.out (by decide) hgrow); have hKx := kept (keeps_grown HK.out OO.out (Nat.le_refl _) hgrow); have hO4 := kept hown; clear hown hgrow))
       go_roundw
       case rel => exact ⟨j + 1, by omega, by go_num, by rw [HAD.out, HAC.out, if_pos (by simp), List.length_append, cellsC_snoc, List.length_singleton]; have h9 := hO4.out; simp only [List.length_map, List.length_singleton, List.map_cons, List.map_nil, List.flatten_cons, List.flatten_nil, List.append_nil] at h9; exact h9, hBx.out, hKx.out⟩
       case measure => simp [intOf]; omega
    ·have hljz : ¬ (j : Int) < (yil : Int) := by omega
     obtain rfl : j = yil := by omega
     go_wp2
     go_roundw
     case rel => exact ⟨k + 1, by omega, by go_num, by rw [PNk.out]; exact OO.out, HK.out⟩
     case measure => simp [intOf]; omega
  ·have hlkz : ¬ (k : Int) < (f.nb : Int) := by omega
   obtain rfl : k = f.nb := by omega
   go_wp2
   go_ret
   exact ⟨⟨_, rfl, by rw [HFN.out]; exact own_low OO.out HSW.out⟩, (TW0.out.and_then HK.out)⟩
end Go.Proofs.YtjllbchfojonhaaGreatDoor
