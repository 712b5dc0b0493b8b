/- Package typing: Slot; contract. -/
import Derived.Test.YtjllbchfojonhaaDoorTypB
namespace Go.Proofs.YtjllbchfojonhaaDoor
open Go.RowKit
set_option linter.unusedVariables false
set_option linter.unusedSimpArgs false

def piB (x : InstM) : Bool := x.op == 25 || x.op == 26
theorem slotC_any (x : InstM) (w : World) (hx : InstAt w x) : Calls Tryd.prog 43 (#[.agg x.cells.toArray] ++ #[]) w fun e w' => e = .returned (.bool (piB x)) ∧ Keeps w w' [] := by
 obtain ⟨s1, d1, e3, _⟩ := IntsAt.open_ hx
 have HX := kept (show piB x = (x.op == 25 || x.op == 26) from rfl)
 simp only [InstM.cells, e3, HX.out]
 clear hx HX e3
 generalize x.op = op at *
 generalize x.dst = dst at *
 generalize x.num = num at *
 generalize x.args.2.length = na at *
 have hk0 : Keeps w (w.alloc (.cells #[.int .i64 op, .int .i64 dst, .slice s1 na d1, .int .i64 num] 42)) [] := (Keeps.refl _ []).alloc _
 have bb0 := Blk.new w 42 #[.int .i64 op, .int .i64 dst, .slice s1 na d1, .int .i64 num]
 have Bm := kept bb0
 have HK := kept hk0
 obtain ⟨m0, m1, m2, m3⟩ := Bm.out.c4
 simp at m0 m1 m2 m3
 clear hk0 bb0
 rcases Bool.eq_false_or_eq_true (op == 25) with h | h
 all_goals
  rw [h]
  go_enter Tryd.func43, Tryd.ntmps43
  go_wp2
  go_ret
  exact ⟨ret_bool (by simp), HK.out⟩
def slotE (f : FuncM) : Int := if (shapedB f && slotB f) = true then 0 else 3
def sblockB (b : BlockM) : Bool := (b.phis.2.length == 0) && b.insts.2.all fun x => !(x.op == 25 || x.op == 26)
theorem pisAny (y : BlockM) (W : World) (hy : BlockAt W y) : Calls Tryd.prog 42 #[y.insts.1, .func (.func 43) #[] #[]] W fun e w' => e = .returned (.bool (y.insts.2.any piB)) ∧ Keeps W w' [] :=
 any_insts 43 #[] piB y.insts.1 y.insts.2 W hy.insts (fun W' j hj hW => slotC_any y.insts.2[j]! W' (Row.keep (hy.inst _ (bang_mem hj)) hW)) (enters_of Tryd.func43 (by kernel_rfl) rfl)
theorem sblock_eq (y : BlockM) : sblockB y = !(y.insts.2.any piB || decide (0 < y.phis.2.length)) := by
 unfold sblockB
 rw [List.all_eq_not_any_not, Bool.not_or, Bool.and_comm]
 congr 1
 ·congr 2; funext x; rw [Bool.not_not]; rfl
 ·rw [Bool.eq_iff_iff]; simp; try omega

set_option maxRecDepth 100000 in
set_option maxHeartbeats 8000000 in
theorem slotF_any (f : FuncM) (w : World) (ht : Tabs w) (hf : FuncAt w f) (hfew : FewP f) : Calls Tryd.prog 15 #[f.val] w fun e w' => e = .returned (.int .i64 (slotE f)) ∧ Keeps w w' [] := by
 have hk0 : Keeps w (w.alloc (.cells #[f.vars.1, f.params.1, f.blocks.1] 26)) [] := (Keeps.refl w []).alloc _
 have CS := kept (typedF_any f _ (ht.keep hk0) (hf.keep hk0) hfew)
 have hbx := Boxed.new w f
 have HF := kept (hf.keep hk0)
 obtain ⟨a0, c0, e0, -, -, -⟩ := hf.vars.open_
 obtain ⟨a1, c1, e1, -, -, -⟩ := (show Row w 1 f.params.1 (f.params.2.map intCells) from hf.params).open_
 obtain ⟨a2, c2, e2, -, -, hc2⟩ := (hf.keep hk0).blocks.open_
 have hval : f.val = .agg #[.slice a0 f.nv c0, .slice a1 f.np c1, .slice a2 f.nb c2] := by unfold FuncM.val FuncM.nv FuncM.np FuncM.nb; rw [e0, e1, e2]
 have h1 : #[f.vars.1, f.params.1, f.blocks.1] = #[.slice a0 f.nv c0, .slice a1 f.np c1, .slice a2 f.nb c2] := by
  unfold FuncM.val at hval
  injection hval
 unfold Boxed at hbx
 have CP := kept (fun (y : BlockM) W h1 => pisAny y W h1)
 rw [hval] at CS ⊢
 rw [h1] at hbx CS HF hc2 hk0
 have HC2 := kept hc2
 have HW := kept hk0
 have Bl := kept hbx
 have HX := kept (show slotE f = if (shapedB f && (typedB f && f.blocks.2.all sblockB)) = true then 0 else 3 from rfl)
 have HTE := kept (show typedE f = if (shapedB f && typedB f) = true then 0 else 3 from rfl)
 have hnb := hfew.nb
 have HNB := kept (show f.blocks.2.length = f.nb from rfl)
 obtain ⟨l0, l1, l2⟩ := Bl.out.c3
 simp at l0 l1 l2
 generalize slotE f = SE at *
 clear e0 e1 e2 hval h1 hbx hf ht hfew hc2 hk0
 cases hN : (shapedB f && typedB f) with
 | false =>
  rw [hN] at HTE
  rw [HTE.out, if_neg (by decide)] at CS
  have HXX := kept (show SE = 3 by rw [HX.out, ← Bool.and_assoc, hN]; rfl)
  go_enter Tryd.func15, Tryd.ntmps15
  go_wp2_with (go_at_call 14; refine (CS.out).mono ?_; rintro e w3 ⟨rfl, k3⟩; have K3 := kept k3; clear k3)
  go_ret
  exact ⟨by rw [HXX.out]; rfl, HW.out.and_then K3.out⟩
 | true =>
  rw [hN] at HTE
  rw [HTE.out, if_pos rfl] at CS
  have HXX := kept (show SE = if f.blocks.2.all sblockB = true then 0 else 3 by rw [HX.out, ← Bool.and_assoc, hN]; rfl)
  clear hN HX HTE
  have HK := kept (Keeps.refl (w.alloc (.cells #[.slice a0 f.nv c0, .slice a1 f.np c1, .slice a2 f.nb c2] 26)) [])
  go_enter Tryd.func15, Tryd.ntmps15
  go_wp2_with (go_at_call 14; refine (CS.out).mono ?_; rintro e w3 ⟨rfl, k3⟩; clear l0 l1 l2; replace Bl := kept (Bl.out.keep k3 (by simp)); replace HK := kept (HK.out.and_then k3); obtain ⟨l0, l1, l2⟩ := Bl.out.c3; simp at l0 l1 l2; clear k3)
  clear CS
  have HKa := HK
  have Blo := Bl
  go_loopw [15] (fun i wr => ∃ k : Nat, k ≤ f.nb ∧ i = .int .i64 k ∧ Keeps w3 wr [] ∧ Hid (∀ j, j < k → sblockB f.blocks.2[j]! = true)) (fun i _ => f.nb - (intOf i).toNat)
  case atStart => exact ⟨0, Nat.zero_le _, rfl, Keeps.refl _ _, fun j hj => absurd hj (Nat.not_lt_zero _)⟩
  case round =>
   obtain ⟨k, hk, rfl, hr, A⟩ := hrel
   clear l0 l1 l2 Bl HK
   have HKo := kept hr
   have Bl := kept (Blo.out.keep hr (by simp))
   clear hr
   obtain ⟨l0, l1, l2⟩ := Bl.out.c3
   simp at l0 l1 l2
   by_cases hlt : k < f.nb
   ·have hltz : (k : Int) < (f.nb : Int) := by omega
    obtain ⟨bb, off, rfl, hbl, hcell⟩ := HC2.out k (by rw [HNB.out]; exact hlt)
    have n0 := (HKa.out.and_then HKo.out).cellOf (hcell 0 _ rfl)
    have n1 := (HKa.out.and_then HKo.out).cellOf (hcell 1 _ rfl)
    have n2 := (HKa.out.and_then HKo.out).cellOf (hcell 2 _ rfl)
    have n3 := (HKa.out.and_then HKo.out).cellOf (hcell 3 _ rfl)
    have n4 := (HKa.out.and_then HKo.out).cellOf (hcell 4 _ rfl)
    have n5 := (HKa.out.and_then HKo.out).cellOf (hcell 5 _ rfl)
    have n6 := (HKa.out.and_then HKo.out).cellOf (hcell 6 _ rfl)
    simp only [Nat.add_zero] at n0
    clear hcell HC2
    have hyb := (HF.out.keep (HKa.out.and_then HKo.out)).block _ (bang_mem (l := f.blocks.2) (k := k) (by rw [HNB.out]; exact hlt))
    have HAll := kept (fun h : sblockB f.blocks.2[k]! = false => all_no (p := sblockB) (k := k) (show k < f.blocks.2.length by rw [HNB.out]; exact hlt) h)
    generalize hy : f.blocks.2[k]! = y at *
    have HY := kept hy
    clear hy
    have C3 := kept (fun W (kW : Keeps wr W []) => CP.out y W (hyb.keep kW))
    have HA := kept (sblock_eq y)
    obtain ⟨pa, pc, pe, -, -, -⟩ := hyb.phis.open_
    obtain ⟨qa, qc, qe, -, -, -⟩ := hyb.insts.open_
    rw [pe] at n1
    rw [qe] at n2 C3
    clear hyb pe qe
    generalize y.phis.2.length = np' at *
    generalize y.insts.2.length = ni' at *
    generalize y.insts.2.any piB = PI at *
    generalize y.name = yn at *
    generalize y.kind = yk at *
    generalize y.var = yv at *
    generalize y.to0 = y0 at *
    generalize y.to1 = y1 at *
    have bm := Blk.new wr 39 #[.string yn, .slice pa np' pc, .slice qa ni' qc, .int .i64 yk, .int .i64 yv, .int .i64 y0, .int .i64 y1]
    have k3 : Keeps wr (wr.alloc (.cells #[.string yn, .slice pa np' pc, .slice qa ni' qc, .int .i64 yk, .int .i64 yv, .int .i64 y0, .int .i64 y1] 39)) [] := (Keeps.refl wr []).alloc _
    have HKb := kept k3
    have HK := HKb
    clear l0 l1 l2
    replace Bl := kept (Bl.out.keep k3 (by simp))
    clear k3
    have Bm := kept bm
    clear bm
    obtain ⟨l0, l1, l2⟩ := Bl.out.c3
    obtain ⟨m0, m1, m2, m3, m4, m5, m6⟩ := Bm.out.c7
    simp at l0 l1 l2 m0 m1 m2 m3 m4 m5 m6
    have hz : decide (0 < np') = decide ((0 : Int) < (np' : Int)) := by rw [decide_eq_decide]; omega
    rw [hz] at HA
    clear hz
    cases PI with
    | true =>
     go_wp2_with (go_at_call 42; refine (C3.out _ HKb.out).mono ?_; rintro e w5 ⟨rfl, k3⟩; clear l0 l1 l2 m0 m1 m2 m3 m4 m5 m6; replace Bl := kept (Bl.out.keep k3 (by simp)); replace Bm := kept (Bm.out.keep k3 (by simp)); replace HK := kept (HK.out.and_then k3); obtain ⟨l0, l1, l2⟩ := Bl.out.c3; obtain ⟨m0, m1, m2, m3, m4, m5, m6⟩ := Bm.out.c7; simp at l0 l1 l2 m0 m1 m2 m3 m4 m5 m6; clear k3)
     go_ret
     exact ⟨by rw [HXX.out, HAll.out (by rw [HA.out]; rfl)]; rfl, HW.out.and_then (HKa.out.and_then (HKo.out.and_then HK.out))⟩
    | false =>
     by_cases h0 : (0 : Int) < (np' : Int)
     ·have HA2 := kept (show sblockB y = false by rw [HA.out, decide_eq_true h0]; rfl)
      go_wp2_with (go_at_call 42; refine (C3.out _ HKb.out).mono ?_; rintro e w5 ⟨rfl, k3⟩; clear l0 l1 l2 m0 m1 m2 m3 m4 m5 m6; replace Bl := kept (Bl.out.keep k3 (by simp)); replace Bm := kept (Bm.out.keep k3 (by simp)); replace HK := kept (HK.out.and_then k3); obtain ⟨l0, l1, l2⟩ := Bl.out.c3; obtain ⟨m0, m1, m2, m3, m4, m5, m6⟩ := Bm.out.c7; simp at l0 l1 l2 m0 m1 m2 m3 m4 m5 m6; clear k3)
      go_ret
      exact ⟨by rw [HXX.out, HAll.out HA2.out]; rfl, HW.out.and_then (HKa.out.and_then (HKo.out.and_then HK.out))⟩
     ·have HA2 := kept (show sblockB y = true by rw [HA.out, decide_eq_false h0]; rfl)
      go_wp2_with (go_at_call 42; refine (C3.out _ HKb.out).mono ?_; rintro e w5 ⟨rfl, k3⟩; clear l0 l1 l2 m0 m1 m2 m3 m4 m5 m6; replace Bl := kept (Bl.out.keep k3 (by simp)); replace Bm := kept (Bm.out.keep k3 (by simp)); replace HK := kept (HK.out.and_then k3); obtain ⟨l0, l1, l2⟩ := Bl.out.c3; obtain ⟨m0, m1, m2, m3, m4, m5, m6⟩ := Bm.out.c7; simp at l0 l1 l2 m0 m1 m2 m3 m4 m5 m6; clear k3)
      go_roundw
      case rel =>
       refine ⟨k + 1, by omega, by go_num, HKo.out.and_then HK.out, (show Hid _ from fun q hq => ?_)⟩
       by_cases e : q = k
       ·subst e; rw [HY.out]; exact HA2.out
       ·exact A.out q (by omega)
      case measure => simp [intOf]; omega
   ·have hltz : ¬ (k : Int) < (f.nb : Int) := by omega
    obtain rfl : f.nb = k := by omega
    go_wp2
    go_ret
    exact ⟨by rw [HXX.out, all_yes (p := sblockB) (fun j hj => A.out j (by rw [← HNB.out]; exact hj))]; rfl, HW.out.and_then (HKa.out.and_then HKo.out)⟩
end Go.Proofs.YtjllbchfojonhaaDoor
