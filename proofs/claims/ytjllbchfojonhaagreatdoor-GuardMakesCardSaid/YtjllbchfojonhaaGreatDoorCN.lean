/- Package typing: Count; contract. -/
import Derived.Test.YtjllbchfojonhaaGreatDoorCG
import Derived.Laws.StructEq
import Derived.ChangeKeysEq
namespace Go.Proofs.YtjllbchfojonhaaGreatDoor
open Go.RowKit
set_option linter.unusedVariables false
set_option linter.unusedSimpArgs false

def phT (f : FuncM) (k : Nat) : Nat := ((f.blocks.2.take k).map fun b => b.phis.2.length).sum
def inT (f : FuncM) (k : Nat) : Nat := ((f.blocks.2.take k).map fun b => b.insts.2.length).sum
theorem phT_step (f : FuncM) (k : Nat) (hk : k < f.nb) : phT f (k + 1) = phT f k + f.blocks.2[k]!.phis.2.length := by
 unfold phT
 rw [List.take_succ_eq_append_getElem (show k < f.blocks.2.length from hk), getElem!_pos f.blocks.2 k hk, List.map_append, List.sum_append]
 simp
 try rfl
theorem inT_step (f : FuncM) (k : Nat) (hk : k < f.nb) : inT f (k + 1) = inT f k + f.blocks.2[k]!.insts.2.length := by
 unfold inT
 rw [List.take_succ_eq_append_getElem (show k < f.blocks.2.length from hk), getElem!_pos f.blocks.2 k hk, List.map_append, List.sum_append]
 simp
 try rfl
def sumO (l : List Int) (k : Nat) : Nat := ((List.range k).map (cntO l)).sum
theorem sumO_step (l : List Int) (k : Nat) : sumO l (k + 1) = sumO l k + cntO l k := by unfold sumO; rw [List.range_succ, List.map_append, List.sum_append]; simp
def totO (l : List Int) : Nat := (l.filter chkB).length
theorem totO_snoc (l : List Int) (op : Int) : totO (l ++ [op]) = totO l + if chkB op = true then 1 else 0 := by
 unfold totO
 rw [List.filter_append, List.length_append]
 congr 1
 cases h : chkB op <;> simp [h]
theorem sumO_snoc (l : List Int) (op : Int) : sumO (l ++ [op]) 8 = sumO l 8 + if chkB op = true then 1 else 0 := by
 simp only [sumO_step, show ∀ l, sumO l 0 = 0 from fun _ => rfl, cnt_snoc]
 cases h : chkB op with
 | false => simp
 | true =>
  have h2 : 18 ≤ op ∧ op ≤ 24 := by simpa [chkB] using h
  have h3 : op = 18 ∨ op = 19 ∨ op = 20 ∨ op = 21 ∨ op = 22 ∨ op = 23 ∨ op = 24 := by omega
  rcases h3 with rfl | rfl | rfl | rfl | rfl | rfl | rfl <;> simp <;> omega
theorem sumO_rev (l : List Int) : sumO l.reverse 8 = totO l.reverse := by
 induction l with
 | nil => rfl
 | cons op l ih => rw [List.reverse_cons, sumO_snoc, totO_snoc, ih]
theorem sumO_eq (l : List Int) : sumO l 8 = totO l := by
 have := sumO_rev l.reverse
 rwa [List.reverse_reverse] at this
theorem opsT_all (f : FuncM) : f.blocks.2.flatMap opsB = opsT f f.nb := by unfold opsT; rw [show f.blocks.2.take f.nb = f.blocks.2 from List.take_length]
theorem opsT_len (f : FuncM) (hfew : FewP f) (k : Nat) (hk : k ≤ f.nb) : (opsT f k).length ≤ 1000 * k := by
 induction k with
 | zero => exact Nat.le_refl _
 | succ k ih =>
  have h1 := ih (by omega)
  have h2 := (hfew.block _ (bang_mem (l := f.blocks.2) (k := k) (show k < f.blocks.2.length by have : f.blocks.2.length = f.nb := rfl; omega))).2
  rw [opsT_step f k (by omega), List.length_append]
  unfold opsB
  rw [List.length_map]
  omega
theorem idx8 (l : List Int) (k : Nat) (hk : k < 8) (w : World) : (Instr.index 65 (.agg (cntV l)) (.int .i64 k)).run Tryz.prog w = .ok (cV l k) w :=
 match k, hk with
 | 0, _ => by kernel_rfl
 | 1, _ => by kernel_rfl
 | 2, _ => by kernel_rfl
 | 3, _ => by kernel_rfl
 | 4, _ => by kernel_rfl
 | 5, _ => by kernel_rfl
 | 6, _ => by kernel_rfl
 | 7, _ => by kernel_rfl
 | n + 8, h => absurd h (by omega)

set_option maxRecDepth 100000 in
set_option maxHeartbeats 8000000 in
theorem count_any (f : FuncM) (w : World) (hf : FuncAt w f) (hfew : FewP f) : Calls Tryz.prog 42 #[f.val] w fun e w' => e = .returned (.tuple #[.int .i64 (phT f f.nb : Nat), .int .i64 (inT f f.nb : Nat), .int .i64 (totO (opsT f f.nb) : Nat)]) ∧ Keeps w w' [] := by
 obtain ⟨a0, c0, a1, c1, a2, c2, e0, e1, e2, hval, h1, HF, HC0, HC1, HC2, HNV, HNP, HNB⟩ := fopen hf
 have HFB := kept hfew.block
 have hnbF := hfew.nb
 have CG := kept (fun W h => guards_any f W h hfew)
 have HLEN := kept (opsT_len f hfew f.nb (Nat.le_refl _))
 rw [opsT_all] at CG
 rw [hval]
 rw [hval] at CG
 clear e0 e1 e2 hval h1 hf hfew
 have hk0 : Keeps w (w.alloc (.cells #[.slice a0 f.nv c0, .slice a1 f.np c1, .slice a2 f.nb c2] 26)) [] := (Keeps.refl _ []).alloc _
 have bb0 := Blk.new w 26 #[.slice a0 f.nv c0, .slice a1 f.np c1, .slice a2 f.nb c2]
 have Bl := kept bb0
 have HK := kept hk0
 have l0 := Bl.out.cell 0
 have l1 := Bl.out.cell 1
 have l2 := Bl.out.cell 2
 simp at l0 l1 l2
 clear hk0 bb0
 go_enter Tryz.func42, Tryz.ntmps42
 go_wp2
 clear l0 l1 l2
 generalize (w.alloc (.cells #[.slice a0 f.nv c0, .slice a1 f.np c1, .slice a2 f.nb c2] 26)) = W0 at *
 have Bl_W0 := Bl
 have TW0 := HK
 clear HK
 have HK := kept (Keeps.refl W0 [])
 have l0 := Bl.out.cell 0
 have l1 := Bl.out.cell 1
 have l2 := Bl.out.cell 2
 simp at l0 l1 l2
 go_loopw [2, 3, 12] (fun p s i wr => ∃ k : Nat, k ≤ f.nb ∧ i = .int .i64 k ∧ p = .int .i64 (phT f k : Nat) ∧ s = .int .i64 (inT f k : Nat) ∧ Keeps W0 wr [] ∧ phT f k ≤ 1000 * k ∧ inT f k ≤ 1000 * k) (fun _ _ i _ => f.nb - (intOf i).toNat)
 case atStart => exact ⟨0, Nat.zero_le _, rfl, rfl, rfl, HK.out, Nat.zero_le _, Nat.zero_le _⟩
 case round =>
  obtain ⟨k, hk, rfl, rfl, rfl, hr, hp1, hi1⟩ := hrel
  clear l0 l1 l2
  clear Bl HK
  have HK := kept hr
  have Bl := kept (Bl_W0.out.keep hr (by simp))
  clear hr
  have l0 := Bl.out.cell 0
  have l1 := Bl.out.cell 1
  have l2 := Bl.out.cell 2
  simp at l0 l1 l2
  by_cases hlt : k < f.nb
  ·have hltz : (k : Int) < (f.nb : Int) := by omega
   obtain ⟨bb, off, rfl, hbl, hcell⟩ := HC2.out k (by rw [HNB.out]; exact hlt)
   have n0 := (TW0.out.and_then HK.out).cellOf (hcell 0 _ rfl)
   have n1 := (TW0.out.and_then HK.out).cellOf (hcell 1 _ rfl)
   have n2 := (TW0.out.and_then HK.out).cellOf (hcell 2 _ rfl)
   have n3 := (TW0.out.and_then HK.out).cellOf (hcell 3 _ rfl)
   have n4 := (TW0.out.and_then HK.out).cellOf (hcell 4 _ rfl)
   have n5 := (TW0.out.and_then HK.out).cellOf (hcell 5 _ rfl)
   have n6 := (TW0.out.and_then HK.out).cellOf (hcell 6 _ rfl)
   simp only [Nat.add_zero] at n0
   have hyb := HF.out.block _ (bang_mem (l := f.blocks.2) (k := k) (by rw [HNB.out]; exact hlt))
   have hfb := HFB.out _ (bang_mem (l := f.blocks.2) (k := k) (by rw [HNB.out]; exact hlt))
   have HP1 := kept (phT_step f k hlt)
   have HI1 := kept (inT_step f k hlt)
   clear hcell
   generalize f.blocks.2[k]! = y at *
   obtain ⟨pa, pc, pe, -, -, -⟩ := hyb.phis.open_
   obtain ⟨qa, qc, qe, -, -, -⟩ := hyb.insts.open_
   rw [pe] at n1
   rw [qe] at n2
   clear hyb pe qe
   generalize y.phis.2.length = pn at *
   generalize y.insts.2.length = qn at *
   generalize y.name = yn at *
   generalize y.kind = yk at *
   generalize y.var = yv at *
   generalize y.to0 = y0 at *
   generalize y.to1 = y1 at *
   generalize hPk : phT f k = PK at *
   generalize hIk : inT f k = IK at *
   have h1 := hfb.1
   have h2 := hfb.2
   clear hfb
   clear l0 l1 l2
   have bmx := Blk.new wr 38 #[.string yn, .slice pa pn pc, .slice qa qn qc, .int .i64 yk, .int .i64 yv, .int .i64 y0, .int .i64 y1]
   have k3 : Keeps wr (wr.alloc (.cells #[.string yn, .slice pa pn pc, .slice qa qn qc, .int .i64 yk, .int .i64 yv, .int .i64 y0, .int .i64 y1] 38)) [] := (Keeps.refl wr []).alloc _
   have Blx := kept (Bl.out.keep k3 (by simp))
   have HKx := kept (HK.out.and_then k3)
   clear k3 Bl HK
   have Bl := Blx
   have HK := HKx
   have Bm := kept bmx
   clear bmx Blx HKx
   have l0 := Bl.out.cell 0
   have l1 := Bl.out.cell 1
   have l2 := Bl.out.cell 2
   have m0 := Bm.out.cell 0
   have m1 := Bm.out.cell 1
   have m2 := Bm.out.cell 2
   have m3 := Bm.out.cell 3
   have m4 := Bm.out.cell 4
   have m5 := Bm.out.cell 5
   have m6 := Bm.out.cell 6
   simp at l0 l1 l2 m0 m1 m2 m3 m4 m5 m6
   go_wp2
   go_roundw
   case rel =>
    refine ⟨k + 1, by omega, by go_num, ?_, ?_, HK.out, by rw [HP1.out]; omega, by rw [HI1.out]; omega⟩
    ·rw [HP1.out]; go_num
    ·rw [HI1.out]; go_num
   case measure => simp [intOf]; omega
  ·have hltz : ¬ (k : Int) < (f.nb : Int) := by omega
   obtain rfl : f.nb = k := by omega
   clear hlt hk
   go_wp2_with (first | (go_at_call 70; refine (CG.out _ (HF.out.keep (TW0.out.and_then HK.out))).mono ?_; rintro e w3 ⟨rfl, k3⟩; clear l0 l1 l2; have Blx := kept (Bl.out.keep k3 (by simp)); have HKx := kept (HK.out.and_then k3); clear Bl HK; have Bl := Blx; have HK := HKx; clear Blx HKx; have l0 := Bl.out.cell 0; have l1 := Bl.out.cell 1; have l2 := Bl.out.cell 2; simp at l0 l1 l2; clear k3))
   have hHL := HLEN.out
   generalize hAA : opsT f f.nb = AA at *
   have HAA := kept hAA
   clear hAA
   go_loop [4, 29] (fun s i => ∃ q : Nat, q ≤ 8 ∧ i = .int .i64 q ∧ s = .int .i64 (sumO AA q : Nat) ∧ sumO AA q ≤ 40000 * q) (fun _ i => 8 - (intOf i).toNat)
   case atStart => exact ⟨0, Nat.zero_le _, rfl, rfl, Nat.le_refl _⟩
   case round =>
    obtain ⟨q, hq, rfl, rfl, hs⟩ := hrel
    by_cases hltq : q < 8
    ·have hltqz : (q : Int) < 8 := by omega
     have hix := fun w => idx8 AA q hltq w
     have HSS := kept (sumO_step AA q)
     have hcl := cnt_le AA q
     unfold cV at hix
     generalize sumO AA q = SS at *
     generalize cntO AA q = cc at *
     generalize cntV AA = VV at *
     go_wp2
     go_round
     case rel => exact ⟨q + 1, by omega, by go_num, by rw [HSS.out]; go_num, by rw [HSS.out]; omega⟩
     case measure => simp [intOf]; omega
    ·have hltqz : ¬ (q : Int) < 8 := by omega
     obtain rfl : q = 8 := by omega
     have HSQ := kept (sumO_eq AA)
     go_wp2
     exact bodyPost_ret (v := .tuple #[.int .i64 (phT f f.nb : Nat), .int .i64 (inT f f.nb : Nat), .int .i64 (sumO AA 8 : Nat)]) (by simp [results, Tryz.results42, go_sem]) rfl ⟨by rw [HSQ.out, HAA.out], (TW0.out.and_then HK.out)⟩
end Go.Proofs.YtjllbchfojonhaaGreatDoor
