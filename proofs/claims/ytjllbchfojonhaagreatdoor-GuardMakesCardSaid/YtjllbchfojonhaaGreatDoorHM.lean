/- What the packed texts of GuardSafe leave out and GuardMakes wants: is a check good at a place; which blocks are reached; stands one ahead. -/
import Derived.Test.YtjllbchfojonhaaGreatDoorHX
import Derived.Deep.CutBlock
import Derived.Deep.Cut
import Derived.Deep.CutRange
import Derived.OwnWalk
import Derived.BigQuiet
namespace Go.Proofs.YtjllbchfojonhaaGreatDoor
open Go.RowKit
set_option linter.unusedVariables false
set_option linter.unusedSimpArgs false

theorem contains_no {l : List Int} {v : Int} (h : ∀ t, t < l.length → ¬ l[t]! = v) : l.contains v = false := by
 rw [Bool.eq_false_iff]
 intro hc
 obtain ⟨i, hi, e⟩ := List.mem_iff_getElem.1 (List.contains_iff_mem.1 hc)
 exact h i hi (by rw [getElem!_pos l i hi]; exact e)
theorem contains_yes {l : List Int} {v : Int} {t : Nat} (ht : t < l.length) (h : l[t]! = v) : l.contains v = true := by
 rw [List.contains_iff_mem, ← h, getElem!_pos l t ht]; exact List.getElem_mem ht
set_option maxRecDepth 100000 in
set_option maxHeartbeats 200000000 in
theorem among_any (v : Int) (q : IntsM) (w : World) (hq : IntsAt w q) : Calls Tryz.prog 69 #[.int .i64 v, q.1] w fun e w' => e = .returned (.bool (q.2.contains v)) ∧ w = w' := by
 obtain ⟨a, c, e, hl1, hl2, hc⟩ := Row.open_ (M := Int) (cells := intCells) (show Row w 1 q.1 (q.2.map intCells) from hq)
 rw [e]
 have hnb : q.2.length ≤ 9223372036854775807 := by unfold maxLen at hl2; omega
 have HC := kept hc
 have HN := kept (fun h => contains_no (l := q.2) (v := v) h)
 have HY := kept (fun t ht h => contains_yes (l := q.2) (v := v) (t := t) ht h)
 generalize q.2.contains v = R at *
 clear hc hq e hl1 hl2
 generalize hn : q.2.length = n at *
 have HNL := kept hn
 clear hn
 go_enter Tryz.func69, Tryz.ntmps69
 go_wp2
 go_loopw [9] (fun i' wx => ∃ j : Nat, j ≤ n ∧ i' = .int .i64 j ∧ w = wx ∧ Hid (∀ t, t < j → ¬ q.2[t]! = v)) (fun i' _ => n - (intOf i').toNat)
 case atStart => exact ⟨0, Nat.zero_le _, rfl, rfl, fun t ht => absurd ht (Nat.not_lt_zero _)⟩
 case round =>
  obtain ⟨j, hj, rfl, rfl, hno⟩ := hrel
  have HNO := kept hno.out
  clear hno
  by_cases hlt : j < n
  ·have hltz : (j : Int) < (n : Int) := by omega
   obtain ⟨b, o, rfl, hb, hcell⟩ := HC.out j (by first | exact hlt | (rw [HNL.out]; exact hlt))
   have x0 := hcell 0 _ rfl
   simp only [Nat.mul_one, Nat.add_zero] at x0
   clear hcell HC
   have HZ := kept (show q.2[j]! = q.2[j]! from rfl)
   generalize hz : q.2[j]! = z at x0
   have HZJ := kept hz
   clear hz HZ
   by_cases hzv : z = v
   ·subst hzv
    go_wp2
    go_ret
    exact ⟨ret_bool (HY.out j hlt HZJ.out).symm, rfl⟩
   ·have hzb : (z == v) = false := by simpa using hzv
    go_wp2
    go_roundw
    case rel => exact ⟨j + 1, by omega, by go_num, by first | rfl | trivial, fun t ht => by rcases Nat.lt_succ_iff_lt_or_eq.1 ht with h | h; exact HNO.out t h; rw [h, HZJ.out]; exact hzv⟩
    case measure => simp [intOf]; omega
  ·have hltz : ¬ (j : Int) < (n : Int) := by omega
   go_wp2
   go_ret
   exact ⟨ret_bool (HN.out (fun t ht => HNO.out t (by omega))).symm, rfl⟩
theorem list_eq_of {l m : List Int} (h0 : l.length = m.length) (h : ∀ t, t < m.length → l[t]! = m[t]!) : l = m := by
 apply List.ext_getElem h0
 intro i h1 h2
 have := h i h2
 rwa [getElem!_pos l i h1, getElem!_pos m i h2] at this
theorem isB_yes {x : InstM} {op : Int} {l : List Int} (h1 : x.op = op) (h2 : x.args.2.length = l.length) (h3 : ∀ t, t < l.length → x.args.2[t]! = l[t]!) : isB x op l = true := by
 unfold isB; rw [h1, beq_self_eq_true, Bool.true_and, decide_eq_true_eq]; exact list_eq_of h2 h3
theorem isB_no1 {x : InstM} {op : Int} {l : List Int} (h : ¬ x.op = op) : isB x op l = false := by
 unfold isB; rw [show (x.op == op) = false by simpa using h, Bool.false_and]
theorem isB_no2 {x : InstM} {op : Int} {l : List Int} (h : ¬ x.args.2.length = l.length) : isB x op l = false := by
 unfold isB; rw [decide_eq_false (fun e => h (by rw [e])), Bool.and_false]
theorem isB_no3 {x : InstM} {op : Int} {l : List Int} {t : Nat} (h : ¬ x.args.2[t]! = l[t]!) : isB x op l = false := by
 unfold isB; rw [decide_eq_false (fun e => h (by rw [e])), Bool.and_false]

set_option maxRecDepth 100000 in
set_option maxHeartbeats 200000000 in
theorem is15_any (x : InstM) (op : Int) (q : IntsM) (w : World) (hx : InstAt w x) (hq : IntsAt w q) : Calls Tryz.prog 15 #[.agg #[.int .i64 x.op, .int .i64 x.dst, x.args.1, .int .i64 x.num], .int .i64 op, q.1] w fun e w' => e = .returned (.bool (isB x op q.2)) ∧ Keeps w w' [] := by
 obtain ⟨a, ca, e1, hl1, hm1, hc1⟩ := Row.open_ (M := Int) (cells := intCells) (show Row w 1 x.args.1 (x.args.2.map intCells) from hx)
 obtain ⟨b, cb, e2, hl2, hm2, hc2⟩ := Row.open_ (M := Int) (cells := intCells) (show Row w 1 q.1 (q.2.map intCells) from hq)
 rw [e1, e2]
 have hnb : q.2.length ≤ 9223372036854775807 := by unfold maxLen at hm2; omega
 have Y1 := kept (fun h1 h2 h3 => isB_yes (x := x) (op := op) (l := q.2) h1 h2 h3)
 have N1 := kept (fun h => isB_no1 (x := x) (op := op) (l := q.2) h)
 have N2 := kept (fun h => isB_no2 (x := x) (op := op) (l := q.2) h)
 have N3 := kept (fun t h => isB_no3 (x := x) (op := op) (l := q.2) (t := t) h)
 generalize isB x op q.2 = R at *
 have HC1 := kept hc1
 have HC2 := kept hc2
 clear hc1 hc2 hx hq e1 e2 hl1 hl2 hm1 hm2
 generalize hn1 : x.args.2.length = n1 at *
 generalize hn2 : q.2.length = n2 at *
 have HN1 := kept hn1
 have HN2 := kept hn2
 clear hn1 hn2
 generalize hxo : x.op = xo at *
 generalize x.dst = xd at *
 generalize x.num = xn at *
 clear hxo
 obtain ⟨HK, Bl⟩ := fbox w 43 #[.int .i64 xo, .int .i64 xd, .slice a n1 ca, .int .i64 xn]
 obtain ⟨l0, l1, l2, l3⟩ := Bl.out.c4
 simp at l0 l1 l2 l3
 by_cases ho : xo = op
 ·subst ho
  by_cases hl : n1 = n2
  ·subst hl
   go_enter Tryz.func15, Tryz.ntmps15
   go_wp2
   clear l0 l1 l2 l3
   generalize (w.alloc (.cells #[.int .i64 xo, .int .i64 xd, .slice a n1 ca, .int .i64 xn] 43)) = W0 at *
   have Bl_W0 := Bl
   have TW0 := HK
   clear HK
   have HK := kept (Keeps.refl W0 [])
   obtain ⟨l0, l1, l2, l3⟩ := Bl.out.c4
   simp at l0 l1 l2 l3
   go_loopw [22] (fun i' wx => ∃ j : Nat, j ≤ n1 ∧ i' = .int .i64 j ∧ Keeps W0 wx [] ∧ Hid (∀ t, t < j → x.args.2[t]! = q.2[t]!)) (fun i' _ => n1 - (intOf i').toNat)
   case atStart => exact ⟨0, Nat.zero_le _, rfl, Keeps.refl _ _, fun t ht => absurd ht (Nat.not_lt_zero _)⟩
   case round =>
    obtain ⟨j, hj, rfl, hr, hno⟩ := hrel
    have HNO := kept hno.out
    clear hno
    clear l0 l1 l2 l3
    clear Bl HK
    have HK := kept hr
    have Bl := kept (Bl_W0.out.keep hr (by simp))
    clear hr
    obtain ⟨l0, l1, l2, l3⟩ := Bl.out.c4
    simp at l0 l1 l2 l3
    by_cases hlt : j < n1
    ·have hltz : (j : Int) < (n1 : Int) := by omega
     obtain ⟨b1, o1, rfl, hb1, hcell1⟩ := HC1.out j (by first | exact hlt | (rw [HN1.out]; exact hlt))
     obtain ⟨b2, o2, rfl, hb2, hcell2⟩ := HC2.out j (by first | exact hlt | (rw [HN2.out]; exact hlt))
     have y1 := (TW0.out.and_then HK.out).cellOf (hcell1 0 _ rfl)
     have y2 := (TW0.out.and_then HK.out).cellOf (hcell2 0 _ rfl)
     simp only [Nat.mul_one, Nat.add_zero] at y1 y2
     clear hcell1 hcell2 HC1 HC2
     have HZ := kept (show x.args.2[j]! = x.args.2[j]! from rfl)
     generalize hz1 : x.args.2[j]! = z1 at y1
     generalize hz2 : q.2[j]! = z2 at y2
     have HZ1 := kept hz1
     have HZ2 := kept hz2
     clear hz1 hz2 HZ
     by_cases hz : z1 = z2
     ·subst hz
      go_wp2
      go_quiet (fail)
      generalize hQ : wr.drewN _ = Q at *
      have KQ : Keeps wr Q [] := by rw [← hQ]; exact (Keeps.refl wr []).drewN _
      have HKQ := kept (HK.out.and_then KQ)
      clear hQ KQ
      go_wp2
      go_roundw
      case rel => exact ⟨j + 1, by omega, by go_num, HKQ.out, fun t ht => by rcases Nat.lt_succ_iff_lt_or_eq.1 ht with h | h; exact HNO.out t h; rw [h, HZ1.out, HZ2.out]⟩
      case measure => simp [intOf]; omega
     ·have hzb : (z1 == z2) = false := by simpa using hz
      go_wp2
      go_quiet (fail)
      generalize hQ : wr.drewN _ = Q at *
      have KQ : Keeps wr Q [] := by rw [← hQ]; exact (Keeps.refl wr []).drewN _
      have HKQ := kept (HK.out.and_then KQ)
      clear hQ KQ
      go_wp2
      go_ret
      exact ⟨ret_bool (N3.out j (by rw [HZ1.out, HZ2.out]; exact hz)).symm, TW0.out.and_then HKQ.out⟩
    ·have hltz : ¬ (j : Int) < (n1 : Int) := by omega
     go_wp2
     go_ret
     exact ⟨ret_bool (Y1.out (by first | rfl | trivial) (by first | rfl | trivial) (fun t ht => HNO.out t (by have h9 := HN2.out; omega))).symm, (TW0.out.and_then HK.out)⟩
  ·have hlb : ((n1 : Int) == (n2 : Int)) = false := by simp; omega
   have hlz : ¬ (n1 : Int) = (n2 : Int) := by omega
   go_enter Tryz.func15, Tryz.ntmps15
   go_wp2
   go_ret
   exact ⟨ret_bool (N2.out hl).symm, HK.out⟩
 ·have hob : (xo == op) = false := by simpa using ho
  go_enter Tryz.func15, Tryz.ntmps15
  go_wp2
  go_ret
  exact ⟨ret_bool (N1.out ho).symm, HK.out⟩
set_option maxRecDepth 100000 in
set_option maxHeartbeats 200000000 in
theorem through38_any (y : BlockM) (op : Int) (q : IntsM) (pl : Nat) (was : Bool) (w : World) (hy : BlockAt w y) (hq : IntsAt w q) (hpl : pl ≤ y.insts.2.length) (hb : y.phis.2.length ≤ 100000 ∧ y.insts.2.length ≤ 100000) :
  Calls Tryz.prog 38 #[.agg y.cells.toArray, .int .i64 op, q.1, .int .i64 (pl : Nat), .bool was] w fun e w' => e = .returned (.bool (throughM y op q.2 pl was)) ∧ Keeps w w' [] := by
 obtain ⟨pa, pc, pe, -, -, hpc⟩ := hy.phis.open_
 obtain ⟨qa, qc, qe, -, -, hqc⟩ := hy.insts.open_
 rw [show y.cells.toArray = #[.string y.name, .slice pa y.phis.2.length pc, .slice qa y.insts.2.length qc, .int .i64 y.kind, .int .i64 y.var, .int .i64 y.to0, .int .i64 y.to1] by unfold BlockM.cells; rw [pe, qe]]
 have HYB := kept hy
 have HPC := kept hpc
 have HQC := kept hqc
 have HQ := kept hq
 have CA := kept (fun v W h => among_any v q W h)
 have CI := kept (fun x W h1 h2 => is15_any x op q W h1 h2)
 obtain ⟨hb1, hb2⟩ := hb
 have HTH := kept (show throughM y op q.2 pl was = (y.insts.2.take pl).foldl (instG op q.2) (y.phis.2.foldl (phiG q.2) was) from rfl)
 generalize throughM y op q.2 pl was = R at *
 clear hy hpc hqc hq pe qe
 generalize hpn : y.phis.2.length = pn at *
 have HPN := kept hpn
 generalize hqn : y.insts.2.length = qn at *
 have HQN := kept hqn
 clear hpn hqn
 obtain ⟨HK, Bl⟩ := fbox w 38 #[.string y.name, .slice pa pn pc, .slice qa qn qc, .int .i64 y.kind, .int .i64 y.var, .int .i64 y.to0, .int .i64 y.to1]
 obtain ⟨l0, l1, l2, l3, l4, l5, l6⟩ := Bl.out.c7
 simp at l0 l1 l2 l3 l4 l5 l6
 go_enter Tryz.func38, Tryz.ntmps38
 go_wp2
 clear l0 l1 l2 l3 l4 l5 l6
 generalize (w.alloc (.cells #[.string y.name, .slice pa pn pc, .slice qa qn qc, .int .i64 y.kind, .int .i64 y.var, .int .i64 y.to0, .int .i64 y.to1] 38)) = W0 at *
 have Bl_W0 := Bl
 have TW0 := HK
 clear HK
 have HK := kept (Keeps.refl W0 [])
 obtain ⟨l0, l1, l2, l3, l4, l5, l6⟩ := Bl.out.c7
 simp at l0 l1 l2 l3 l4 l5 l6
 go_loopw [4, 18] (fun b' i' wx => ∃ j : Nat, j ≤ pn ∧ i' = .int .i64 j ∧ b' = .bool ((y.phis.2.take j).foldl (phiG q.2) was) ∧ Keeps W0 wx []) (fun _ i' _ => pn - (intOf i').toNat)
 case atStart => exact ⟨0, Nat.zero_le _, rfl, rfl, Keeps.refl _ _⟩
 case round =>
  obtain ⟨j, hj, rfl, rfl, hr⟩ := hrel
  clear l0 l1 l2 l3 l4 l5 l6
  clear Bl HK
  have HK := kept hr
  have Bl := kept (Bl_W0.out.keep hr (by simp))
  clear hr
  obtain ⟨l0, l1, l2, l3, l4, l5, l6⟩ := Bl.out.c7
  simp at l0 l1 l2 l3 l4 l5 l6
  by_cases hlt : j < pn
  ·have hltz : (j : Int) < (pn : Int) := by omega
   obtain ⟨pb, po, rfl, hpb, hcell⟩ := HPC.out j (by first | exact hlt | (rw [HPN.out]; exact hlt))
   have HF := kept (fold_take (phiG q.2) was y.phis.2 j (by rw [HPN.out]; exact hlt))
   have hpa := HYB.out.phi _ (bang_mem (l := y.phis.2) (k := j) (by rw [HPN.out]; exact hlt))
   obtain ⟨ua, va1, e1, -, -, -⟩ := IntsAt.open_ hpa.1
   obtain ⟨ub, va2, e2, -, -, -⟩ := IntsAt.open_ hpa.2
   have n0 := (TW0.out.and_then HK.out).cellOf (hcell 0 _ rfl)
   have n1 := (TW0.out.and_then HK.out).cellOf (hcell 1 _ rfl)
   have n2 := (TW0.out.and_then HK.out).cellOf (hcell 2 _ rfl)
   simp only [Nat.add_zero] at n0
   rw [e1] at n1
   rw [e2] at n2
   clear e1 e2 hpa
   clear hcell
   generalize y.phis.2[j]! = p at *
   generalize (y.phis.2.take j).foldl (phiG q.2) was = bw at *
   have HCD := kept (show phiG q.2 bw p = if q.2.contains p.dst = true then false else bw from rfl)
   have CD := kept (CA.out p.dst)
   generalize q.2.contains p.dst = bc at *
   cases bc
   ·go_wp2_with (first | (go_at_call 69; refine (CD.out _ (Row.keep HQ.out ((TW0.out.and_then HK.out).alloc _))).mono ?_; rintro e w3 ⟨rfl, rfl⟩))
    go_roundw
    case rel => exact ⟨j + 1, by omega, by go_num, by rw [HF.out, HCD.out]; first | rfl | (cases bw <;> rfl), HK.out.alloc _⟩
    case measure => simp [intOf]; omega
   ·go_wp2_with (first | (go_at_call 69; refine (CD.out _ (Row.keep HQ.out ((TW0.out.and_then HK.out).alloc _))).mono ?_; rintro e w3 ⟨rfl, rfl⟩))
    go_roundw
    case rel => exact ⟨j + 1, by omega, by go_num, by rw [HF.out, HCD.out]; first | rfl | (cases bw <;> rfl), HK.out.alloc _⟩
    case measure => simp [intOf]; omega
  ·have hltz : ¬ (j : Int) < (pn : Int) := by omega
   have HS := kept (show (y.phis.2.take j).foldl (phiG q.2) was = y.phis.2.foldl (phiG q.2) was by rw [show j = y.phis.2.length by rw [HPN.out]; omega, List.take_length])
   rw [HS.out]
   clear HS HPC
   generalize y.phis.2.foldl (phiG q.2) was = s0 at *
   go_wp2
   obtain ⟨W1, hW1⟩ : ∃ W1 : World, W1 = wr := ⟨_, rfl⟩
   subst hW1
   clear l0 l1 l2 l3 l4 l5 l6
   have Bl_W1 := Bl
   have TW1 := HK
   clear HK
   have HK := kept (Keeps.refl W1 [])
   obtain ⟨l0, l1, l2, l3, l4, l5, l6⟩ := Bl.out.c7
   simp at l0 l1 l2 l3 l4 l5 l6
   go_loopw [4, 28] (fun b' i' wx => ∃ k : Nat, k ≤ pl ∧ i' = .int .i64 k ∧ b' = .bool ((y.insts.2.take k).foldl (instG op q.2) s0) ∧ Keeps W1 wx []) (fun _ i' _ => pl - (intOf i').toNat)
   case atStart => exact ⟨0, Nat.zero_le _, rfl, rfl, Keeps.refl _ _⟩
   case round =>
    obtain ⟨k, hk, rfl, rfl, hr⟩ := hrel
    clear l0 l1 l2 l3 l4 l5 l6
    clear Bl HK
    have HK := kept hr
    have Bl := kept (Bl_W1.out.keep hr (by simp))
    clear hr
    obtain ⟨l0, l1, l2, l3, l4, l5, l6⟩ := Bl.out.c7
    simp at l0 l1 l2 l3 l4 l5 l6
    by_cases hlk : k < pl
    ·have hlkz : (k : Int) < (pl : Int) := by omega
     have hkq : (k : Int) < (qn : Int) := by omega
     obtain ⟨ib, io, rfl, hib, hcell⟩ := HQC.out k (by first | omega | (rw [HQN.out]; omega))
     have HF := kept (fold_take (instG op q.2) s0 y.insts.2 k (by rw [HQN.out]; omega))
     have hxa := (HYB.out.inst _ (bang_mem (l := y.insts.2) (k := k) (by rw [HQN.out]; omega)))
     have n0 := (TW0.out.and_then (TW1.out.and_then HK.out)).cellOf (hcell 0 _ rfl)
     have n1 := (TW0.out.and_then (TW1.out.and_then HK.out)).cellOf (hcell 1 _ rfl)
     have n2 := (TW0.out.and_then (TW1.out.and_then HK.out)).cellOf (hcell 2 _ rfl)
     have n3 := (TW0.out.and_then (TW1.out.and_then HK.out)).cellOf (hcell 3 _ rfl)
     obtain ⟨ua, va1, e1, -, -, -⟩ := IntsAt.open_ hxa
     simp only [Nat.add_zero] at n0
     rw [e1] at n2
     clear hcell HQC
     generalize y.insts.2[k]! = x at *
     have HXA := kept hxa
     clear hxa
     generalize (y.insts.2.take k).foldl (instG op q.2) s0 = bw at *
     have HCD := kept (show instG op q.2 bw x = if (decide (0 ≤ x.dst) && q.2.contains x.dst) = true then false else (isB x op q.2 || bw) from rfl)
     have CD := kept (CA.out x.dst)
     have CX := kept (CI.out x)
     rw [e1] at CX
     clear e1
     generalize q.2.contains x.dst = bc at *
     generalize isB x op q.2 = bi at *
     go_upto_region 11 with (fail)
     clear l0 l1 l2 l3 l4 l5 l6
     have bmx := Blk.new wr 43 #[.int .i64 x.op, .int .i64 x.dst, .slice ua x.args.2.length va1, .int .i64 x.num]
     have k3 : Keeps wr (wr.alloc (.cells #[.int .i64 x.op, .int .i64 x.dst, .slice ua x.args.2.length va1, .int .i64 x.num] 43)) [] := (Keeps.refl wr []).alloc _
     replace Bl := kept (Bl.out.keep k3 (by simp))
     replace HK := kept (HK.out.and_then k3)
     have Bx := kept bmx
     clear k3 bmx
     obtain ⟨l0, l1, l2, l3, l4, l5, l6⟩ := Bl.out.c7
     obtain ⟨x0, x1, x2, x3⟩ := Bx.out.c4
     simp at l0 l1 l2 l3 l4 l5 l6 x0 x1 x2 x3
     generalize hWX : wr.alloc (.cells #[.int .i64 x.op, .int .i64 x.dst, .slice ua x.args.2.length va1, .int .i64 x.num] 43) = WX at *
     clear hWX
     clear l0 l1 l2 l3 l4 l5 l6 x0 x1 x2 x3
     obtain ⟨l0, l1, l2, l3, l4, l5, l6⟩ := Bl.out.c7
     obtain ⟨x0, x1, x2, x3⟩ := Bx.out.c4
     simp at l0 l1 l2 l3 l4 l5 l6 x0 x1 x2 x3
     by_cases hd0 : 0 ≤ x.dst
     ·cases bc
      ·cases bi
       ·go_wp2_with (first | (go_at_call 15; refine (CX.out _ (show InstAt _ x from Row.keep (show IntsAt w x.args from HXA.out) (TW0.out.and_then (TW1.out.and_then HK.out))) (Row.keep HQ.out (TW0.out.and_then (TW1.out.and_then HK.out)))).mono ?_; rintro e w3 ⟨rfl, k3⟩; clear l0 l1 l2 l3 l4 l5 l6 x0 x1 x2 x3; replace Bl := kept (Bl.out.keep k3 (by simp)); replace Bx := kept (Bx.out.keep k3 (by simp)); replace HK := kept (HK.out.and_then k3); obtain ⟨l0, l1, l2, l3, l4, l5, l6⟩ := Bl.out.c7; obtain ⟨x0, x1, x2, x3⟩ := Bx.out.c4; simp at l0 l1 l2 l3 l4 l5 l6 x0 x1 x2 x3; clear k3) | (go_at_call 69; refine (CD.out _ (Row.keep HQ.out (TW0.out.and_then (TW1.out.and_then HK.out)))).mono ?_; rintro e w3' ⟨rfl, rfl⟩))
        go_roundw
        case rel => exact ⟨k + 1, by omega, by go_num, by rw [HF.out, HCD.out]; simp [*], HK.out⟩
        case measure => simp [intOf]; omega
       ·go_wp2_with (first | (go_at_call 15; refine (CX.out _ (show InstAt _ x from Row.keep (show IntsAt w x.args from HXA.out) (TW0.out.and_then (TW1.out.and_then HK.out))) (Row.keep HQ.out (TW0.out.and_then (TW1.out.and_then HK.out)))).mono ?_; rintro e w3 ⟨rfl, k3⟩; clear l0 l1 l2 l3 l4 l5 l6 x0 x1 x2 x3; replace Bl := kept (Bl.out.keep k3 (by simp)); replace Bx := kept (Bx.out.keep k3 (by simp)); replace HK := kept (HK.out.and_then k3); obtain ⟨l0, l1, l2, l3, l4, l5, l6⟩ := Bl.out.c7; obtain ⟨x0, x1, x2, x3⟩ := Bx.out.c4; simp at l0 l1 l2 l3 l4 l5 l6 x0 x1 x2 x3; clear k3) | (go_at_call 69; refine (CD.out _ (Row.keep HQ.out (TW0.out.and_then (TW1.out.and_then HK.out)))).mono ?_; rintro e w3' ⟨rfl, rfl⟩))
        go_roundw
        case rel => exact ⟨k + 1, by omega, by go_num, by rw [HF.out, HCD.out]; simp [*], HK.out⟩
        case measure => simp [intOf]; omega
      ·cases bi
       ·go_wp2_with (first | (go_at_call 15; refine (CX.out _ (show InstAt _ x from Row.keep (show IntsAt w x.args from HXA.out) (TW0.out.and_then (TW1.out.and_then HK.out))) (Row.keep HQ.out (TW0.out.and_then (TW1.out.and_then HK.out)))).mono ?_; rintro e w3 ⟨rfl, k3⟩; clear l0 l1 l2 l3 l4 l5 l6 x0 x1 x2 x3; replace Bl := kept (Bl.out.keep k3 (by simp)); replace Bx := kept (Bx.out.keep k3 (by simp)); replace HK := kept (HK.out.and_then k3); obtain ⟨l0, l1, l2, l3, l4, l5, l6⟩ := Bl.out.c7; obtain ⟨x0, x1, x2, x3⟩ := Bx.out.c4; simp at l0 l1 l2 l3 l4 l5 l6 x0 x1 x2 x3; clear k3) | (go_at_call 69; refine (CD.out _ (Row.keep HQ.out (TW0.out.and_then (TW1.out.and_then HK.out)))).mono ?_; rintro e w3' ⟨rfl, rfl⟩))
        go_roundw
        case rel => exact ⟨k + 1, by omega, by go_num, by rw [HF.out, HCD.out]; simp [*], HK.out⟩
        case measure => simp [intOf]; omega
       ·go_wp2_with (first | (go_at_call 15; refine (CX.out _ (show InstAt _ x from Row.keep (show IntsAt w x.args from HXA.out) (TW0.out.and_then (TW1.out.and_then HK.out))) (Row.keep HQ.out (TW0.out.and_then (TW1.out.and_then HK.out)))).mono ?_; rintro e w3 ⟨rfl, k3⟩; clear l0 l1 l2 l3 l4 l5 l6 x0 x1 x2 x3; replace Bl := kept (Bl.out.keep k3 (by simp)); replace Bx := kept (Bx.out.keep k3 (by simp)); replace HK := kept (HK.out.and_then k3); obtain ⟨l0, l1, l2, l3, l4, l5, l6⟩ := Bl.out.c7; obtain ⟨x0, x1, x2, x3⟩ := Bx.out.c4; simp at l0 l1 l2 l3 l4 l5 l6 x0 x1 x2 x3; clear k3) | (go_at_call 69; refine (CD.out _ (Row.keep HQ.out (TW0.out.and_then (TW1.out.and_then HK.out)))).mono ?_; rintro e w3' ⟨rfl, rfl⟩))
        go_roundw
        case rel => exact ⟨k + 1, by omega, by go_num, by rw [HF.out, HCD.out]; simp [*], HK.out⟩
        case measure => simp [intOf]; omega
     ·cases bi
      ·go_wp2_with (first | (go_at_call 15; refine (CX.out _ (show InstAt _ x from Row.keep (show IntsAt w x.args from HXA.out) (TW0.out.and_then (TW1.out.and_then HK.out))) (Row.keep HQ.out (TW0.out.and_then (TW1.out.and_then HK.out)))).mono ?_; rintro e w3 ⟨rfl, k3⟩; clear l0 l1 l2 l3 l4 l5 l6 x0 x1 x2 x3; replace Bl := kept (Bl.out.keep k3 (by simp)); replace Bx := kept (Bx.out.keep k3 (by simp)); replace HK := kept (HK.out.and_then k3); obtain ⟨l0, l1, l2, l3, l4, l5, l6⟩ := Bl.out.c7; obtain ⟨x0, x1, x2, x3⟩ := Bx.out.c4; simp at l0 l1 l2 l3 l4 l5 l6 x0 x1 x2 x3; clear k3) | (go_at_call 69; refine (CD.out _ (Row.keep HQ.out (TW0.out.and_then (TW1.out.and_then HK.out)))).mono ?_; rintro e w3' ⟨rfl, rfl⟩))
       go_roundw
       case rel => exact ⟨k + 1, by omega, by go_num, by rw [HF.out, HCD.out]; simp [*], HK.out⟩
       case measure => simp [intOf]; omega
      ·go_wp2_with (first | (go_at_call 15; refine (CX.out _ (show InstAt _ x from Row.keep (show IntsAt w x.args from HXA.out) (TW0.out.and_then (TW1.out.and_then HK.out))) (Row.keep HQ.out (TW0.out.and_then (TW1.out.and_then HK.out)))).mono ?_; rintro e w3 ⟨rfl, k3⟩; clear l0 l1 l2 l3 l4 l5 l6 x0 x1 x2 x3; replace Bl := kept (Bl.out.keep k3 (by simp)); replace Bx := kept (Bx.out.keep k3 (by simp)); replace HK := kept (HK.out.and_then k3); obtain ⟨l0, l1, l2, l3, l4, l5, l6⟩ := Bl.out.c7; obtain ⟨x0, x1, x2, x3⟩ := Bx.out.c4; simp at l0 l1 l2 l3 l4 l5 l6 x0 x1 x2 x3; clear k3) | (go_at_call 69; refine (CD.out _ (Row.keep HQ.out (TW0.out.and_then (TW1.out.and_then HK.out)))).mono ?_; rintro e w3' ⟨rfl, rfl⟩))
       go_roundw
       case rel => exact ⟨k + 1, by omega, by go_num, by rw [HF.out, HCD.out]; simp [*], HK.out⟩
       case measure => simp [intOf]; omega
    ·have hlkz : ¬ (k : Int) < (pl : Int) := by omega
     have HS := kept (show (y.insts.2.take k).foldl (instG op q.2) s0 = R by rw [HTH.out, show k = pl by omega])
     rw [HS.out]
     go_wp2
     go_ret
     exact ⟨rfl, (TW0.out.and_then (TW1.out.and_then HK.out))⟩
section
variable {ends : Nat → List Nat} {nb : Nat} {seen : List Bool} {out : List Nat} {pre : List (Nat × Nat)} {c k : Nat}
end
section
variable (ends : Nat → List Nat) (T : Nat → Nat → Bool → Bool) (pr : Nat → List Nat) (there : Nat → Bool) (nb nc : Nat)
end
section
variable {ends : Nat → List Nat} {T : Nat → Nat → Bool → Bool} {pr : Nat → List Nat} {there : Nat → Bool} {nb nc : Nat} {I : List (List Bool)}
theorem cntT_le {a b : List Bool} (hl : a.length = b.length) (h : ∀ i, i < a.length → a[i]! = true → b[i]! = true) : cntT a ≤ cntT b := by
 induction a generalizing b with
 | nil => exact Nat.zero_le _
 | cons x a ih =>
  cases b with
  | nil => simp at hl
  | cons y b =>
   have h1 := h 0 (by simp)
   have h2 := ih (b := b) (by simpa using hl) (fun i hi hx => by simpa using h (i + 1) (by simpa using hi) (by simpa using hx))
   unfold cntT at *
   cases x <;> cases y <;> simp at h1 ⊢ <;> (try simp at h2) <;> omega
end
def R1 (f : FuncM) (y : Nat) : Prop := ∃ x, x < f.nb ∧ RWay (succF f) x ∧ y ∈ succF f x
structure FromI (f : FuncM) (l : List Bool) : Prop where
 len : l.length = f.nb
 ok : ∀ y, y < f.nb → l[y]! = true → R1 f y
def FromC (f : FuncM) (l : List Bool) (x : Nat) : Prop := (x = 0 ∨ l[x]! = true) → ∀ y ∈ succF f x, l[y]! = true
theorem from_start (f : FuncM) : FromI f (List.replicate f.nb false) :=
 ⟨by simp, fun y hy h => by rw [getElem!_pos _ y (by simpa using hy)] at h; simp at h⟩
theorem rway_to {f : FuncM} {y : Nat} (h : R1 f y) : RWay (succF f) y := by obtain ⟨x, _, h1, h2⟩ := h; exact .step h1 h2
theorem from_set {f : FuncM} {l : List Bool} (h : FromI f l) {x y : Nat} (hx : x < f.nb) (hxr : x = 0 ∨ l[x]! = true) (hy : y < f.nb) (hl : leadsM f.blocks.2[x]! (y : Int) = true) : FromI f (l.set y true) := by
 refine ⟨by simp [h.len], fun z hz hh => ?_⟩
 rw [lb_set (by rw [h.len]; exact hy)] at hh
 by_cases e : z = y
 ·subst e
  refine ⟨x, hx, ?_, succF_mem.2 ⟨hy, hl⟩⟩
  rcases hxr with rfl | hxr
  ·exact .start
  ·exact rway_to (h.ok x hx hxr)
 ·rw [if_neg e] at hh; exact h.ok z hz hh
theorem from_done {f : FuncM} {l : List Bool} (h : FromI f l) (hp : 0 < f.nb) (hc : ∀ x, x < f.nb → FromC f l x) {y : Nat} (hy : y < f.nb) : l[y]! = true ↔ R1 f y := by
 refine ⟨h.ok y hy, fun ⟨x, hx, hr, hs⟩ => ?_⟩
 have key : ∀ a, RWay (succF f) a → a < f.nb ∧ (a = 0 ∨ l[a]! = true) := fun a ha => by
  induction ha with
  | start => exact ⟨hp, .inl rfl⟩
  | @step a c _ hs ih => exact ⟨(succF_mem.1 hs).1, .inr (hc a ih.1 ih.2 c hs)⟩
 exact hc x hx (key x hr).2 y hs
theorem isB_same (x : InstM) (c : CheckM) : isB x c.op c.args.2 = sameB x.chk c := rfl
section
variable {w w' : World} {L : Nat} {f : FuncM} {cs : List CheckM} {th : List Bool} {I : List (List Bool)} {lv tv iv : Value} {vs : List Value}
end
def mkd (bd fn : List Bool) (g : Bool) (c : Nat) : Bool := if g then fn[c]! else bd[c]!
structure MarkI (succ : Nat → List Nat) (t : Nat → Bool → Bool) (nb : Nat) (bd fn : List Bool) : Prop where
 lb : bd.length = nb
 lf : fn.length = nb
 b0 : bd[0]! = true
 ok : ∀ g c, mkd bd fn g c = true → GWay succ t c g
def ClosedG (succ : Nat → List Nat) (t : Nat → Bool → Bool) (bd fn : List Bool) (a : Nat) (g : Bool) : Prop := mkd bd fn g a = true → ∀ c ∈ succ a, mkd bd fn (t a g) c = true
def kb (k : Nat) : Bool := k == 1
/-- what a pass has come to: all blocks ahead of a, of a the marks ahead of k, of these the ends ahead of y -/
structure PassG (succ : Nat → List Nat) (t : Nat → Bool → Bool) (nb : Nat) (bd0 fn0 bd fn : List Bool) (g : Bool) (a k y : Nat) : Prop where
 i : MarkI succ t nb bd fn
 no : g = false → (bd = bd0 ∧ fn = fn0) ∧ (∀ a', a' < a → ∀ h, ClosedG succ t bd fn a' h) ∧ (∀ k', k' < k → ClosedG succ t bd fn a (kb k')) ∧ (mkd bd fn (kb k) a = true → ∀ c ∈ succ a, c < y → mkd bd fn (t a (kb k)) c = true)
 yes : g = true → cntF bd + cntF fn < cntF bd0 + cntF fn0
section
variable {succ : Nat → List Nat} {t : Nat → Bool → Bool} {nb : Nat} {bd0 fn0 bd fn : List Bool} {g : Bool} {a k y : Nat}
theorem gp_start (h : MarkI succ t nb bd fn) : PassG succ t nb bd fn bd fn false 0 0 0 :=
 ⟨h, fun _ => ⟨⟨rfl, rfl⟩, fun _ h => absurd h (Nat.not_lt_zero _), fun _ h => absurd h (Nat.not_lt_zero _), fun _ _ _ h => absurd h (Nat.not_lt_zero _)⟩, fun e => by cases e⟩
theorem gp_block (h : PassG succ t nb bd0 fn0 bd fn g a 2 0) : PassG succ t nb bd0 fn0 bd fn g (a + 1) 0 0 :=
 ⟨h.i, fun e => ⟨(h.no e).1, fun a' ha' hh => by
  rcases Nat.lt_succ_iff_lt_or_eq.1 ha' with h1 | rfl
  ·exact (h.no e).2.1 a' h1 hh
  ·cases hh
   ·exact (h.no e).2.2.1 0 (by omega)
   ·exact (h.no e).2.2.1 1 (by omega), fun _ h => absurd h (Nat.not_lt_zero _), fun _ _ _ h => absurd h (Nat.not_lt_zero _)⟩, h.yes⟩
theorem gp_mark (h : PassG succ t nb bd0 fn0 bd fn g a k y) (hy : ∀ c ∈ succ a, c < y) : PassG succ t nb bd0 fn0 bd fn g a (k + 1) 0 :=
 ⟨h.i, fun e => ⟨(h.no e).1, (h.no e).2.1, fun k' hk' => by
  rcases Nat.lt_succ_iff_lt_or_eq.1 hk' with h1 | rfl
  ·exact (h.no e).2.2.1 k' h1
  ·exact fun hm c hc => (h.no e).2.2.2 hm c hc (hy c hc), fun _ _ _ h => absurd h (Nat.not_lt_zero _)⟩, h.yes⟩
theorem gp_skip (h : PassG succ t nb bd0 fn0 bd fn g a k 0) (hm : mkd bd fn (kb k) a = false) : PassG succ t nb bd0 fn0 bd fn g a (k + 1) 0 :=
 ⟨h.i, fun e => ⟨(h.no e).1, (h.no e).2.1, fun k' hk' => by
  rcases Nat.lt_succ_iff_lt_or_eq.1 hk' with h1 | rfl
  ·exact (h.no e).2.2.1 k' h1
  ·exact fun hx => (by rw [hm] at hx; cases hx), fun _ _ _ h => absurd h (Nat.not_lt_zero _)⟩, h.yes⟩
theorem gp_same (h : PassG succ t nb bd0 fn0 bd fn g a k y) (hr : y ∈ succ a → mkd bd fn (t a (kb k)) y = true) : PassG succ t nb bd0 fn0 bd fn g a k (y + 1) :=
 ⟨h.i, fun e => ⟨(h.no e).1, (h.no e).2.1, (h.no e).2.2.1, fun hm c hc hcy => by
  rcases Nat.lt_succ_iff_lt_or_eq.1 hcy with h1 | rfl
  ·exact (h.no e).2.2.2 hm c hc h1
  ·exact hr hc⟩, h.yes⟩
theorem mkd_fine (hy : y < fn.length) (h : Bool) (c : Nat) : mkd bd (fn.set y true) h c = if h = true ∧ c = y then true else mkd bd fn h c := by
 unfold mkd
 cases h
 ·simp
 ·rw [if_pos rfl, lb_set hy]; simp
theorem mkd_bad (hy : y < bd.length) (h : Bool) (c : Nat) : mkd (bd.set y true) fn h c = if h = false ∧ c = y then true else mkd bd fn h c := by
 unfold mkd
 cases h
 ·rw [if_neg (by simp), lb_set hy]; simp
 ·simp
theorem gp_fine (h : PassG succ t nb bd0 fn0 bd fn g a k y) (hm : mkd bd fn (kb k) a = true) (hs : y ∈ succ a) (hy : y < nb) (ht : t a (kb k) = true) (hf : fn[y]! = false) : PassG succ t nb bd0 fn0 bd (fn.set y true) true a k (y + 1) := by
 have hl : y < fn.length := by rw [h.i.lf]; exact hy
 have hc := cntF_set fn y hl hf
 refine ⟨⟨h.i.lb, by simp [h.i.lf], h.i.b0, fun b c hb => ?_⟩, fun e => (by cases e), fun _ => ?_⟩
 ·rw [mkd_fine hl] at hb
  by_cases e : b = true ∧ c = y
  ·rw [e.1, e.2]
   have := GWay.step (t := t) (h.i.ok _ _ hm) hs
   rwa [ht] at this
  ·rw [if_neg e] at hb; exact h.i.ok _ _ hb
 ·cases g with
  | true => have := h.yes rfl; omega
  | false => obtain ⟨rfl, rfl⟩ := (h.no rfl).1; omega
theorem gp_bad (h : PassG succ t nb bd0 fn0 bd fn g a k y) (hm : mkd bd fn (kb k) a = true) (hs : y ∈ succ a) (hy : y < nb) (ht : t a (kb k) = false) (hf : bd[y]! = false) : PassG succ t nb bd0 fn0 (bd.set y true) fn true a k (y + 1) := by
 have hl : y < bd.length := by rw [h.i.lb]; exact hy
 have hc := cntF_set bd y hl hf
 refine ⟨⟨by simp [h.i.lb], h.i.lf, ?_, fun b c hb => ?_⟩, fun e => (by cases e), fun _ => ?_⟩
 ·rw [lb_set hl]; split
  ·rfl
  ·exact h.i.b0
 ·rw [mkd_bad hl] at hb
  by_cases e : b = false ∧ c = y
  ·rw [e.1, e.2]
   have := GWay.step (t := t) (h.i.ok _ _ hm) hs
   rwa [ht] at this
  ·rw [if_neg e] at hb; exact h.i.ok _ _ hb
 ·cases g with
  | true => have := h.yes rfl; omega
  | false => obtain ⟨rfl, rfl⟩ := (h.no rfl).1; omega
theorem mkd_fine_keep (hl : y < fn.length) {b : Bool} {c : Nat} (h : mkd bd fn b c = true) : mkd bd (fn.set y true) b c = true := by
 rw [mkd_fine hl]; split
 ·rfl
 ·exact h
theorem mkd_bad_keep (hl : y < bd.length) {b : Bool} {c : Nat} (h : mkd bd fn b c = true) : mkd (bd.set y true) fn b c = true := by
 rw [mkd_bad hl]; split
 ·rfl
 ·exact h
/-- at the standstill -/
theorem marks_done (h : MarkI succ t nb bd fn) (hlt : ∀ a, ∀ c ∈ succ a, c < nb) (hcl : ∀ a, a < nb → ∀ b, ClosedG succ t bd fn a b) (hp : 0 < nb) {c : Nat} {b : Bool} : mkd bd fn b c = true ↔ GWay succ t c b := by
 refine ⟨h.ok b c, fun hw => ?_⟩
 have : c < nb ∧ mkd bd fn b c = true := by
  induction hw with
  | start => exact ⟨hp, h.b0⟩
  | @step a c g hw hs ih => exact ⟨hlt a c hs, hcl a ih.1 g ih.2 c hs⟩
 exact this.2
theorem marks_start (hp : 0 < nb) : MarkI succ t nb ((List.replicate nb false).set 0 true) (List.replicate nb false) := by
 have hl : 0 < (List.replicate nb false).length := by simpa using hp
 have hr : ∀ c, (List.replicate nb false)[c]! = false := fun c => by
  by_cases hc : c < nb
  ·rw [getElem!_pos _ c (by simpa using hc)]; simp
  ·rw [getElem!_neg _ c (by simpa using hc)]; rfl
 refine ⟨by simp, by simp, by rw [lb_set hl, if_pos rfl], fun b c hb => ?_⟩
 rw [mkd_bad hl] at hb
 by_cases e : b = false ∧ c = 0
 ·rw [e.1, e.2]; exact .start
 ·rw [if_neg e] at hb
  unfold mkd at hb
  cases b <;> simp [hr] at hb
/-- the answer -/
theorem good_iff (h : ∀ b c, mkd bd fn b c = true ↔ GWay succ t c b) (s : Bool → Bool) (c : Nat) : ((!bd[c]! || s false) && (!fn[c]! || s true)) = true ↔ ∀ g, GWay succ t c g → s g = true := by
 have h0 := h false c
 have h1 := h true c
 simp only [mkd, if_true, Bool.false_eq_true, if_false] at h0 h1
 constructor
 ·intro hh g hg
  rw [Bool.and_eq_true] at hh
  cases g
  ·have := h0.2 hg; rw [this] at hh; simpa using hh.1
  ·have := h1.2 hg; rw [this] at hh; simpa using hh.2
 ·intro hh
  rw [Bool.and_eq_true]
  constructor
  ·cases hb : bd[c]!
   ·rfl
   ·rw [hh _ (h0.1 hb)]; rfl
  ·cases hb : fn[c]!
   ·rfl
   ·rw [hh _ (h1.1 hb)]; rfl
end
abbrev MarkF (f : FuncM) (op : Int) (l : List Int) (bd fn : List Bool) : Prop := MarkI (succF f) (tF f op l) f.nb bd fn
abbrev PassF (f : FuncM) (op : Int) (l : List Int) (bd0 fn0 bd fn : List Bool) (g : Bool) (a k y : Nat) : Prop := PassG (succF f) (tF f op l) f.nb bd0 fn0 bd fn g a k y
def iseq (x : Nat) (c : Int) : Bool := (x : Int) == c
theorem iseq_t {x : Nat} {c : Int} (h : (x : Int) = c) : iseq x c = true := by unfold iseq; simp [h]
theorem iseq_f {x : Nat} {c : Int} (h : (x : Int) ≠ c) : iseq x c = false := by unfold iseq; simp [h]
theorem bitR_cell {w : World} {g k : Nat} {l : List Bool} (h : Blk w g 4 (bitsR l)) (hk : k < l.length) : w.cell? ⟨g, k, none⟩ = some (.bool l[k]!) := by rw [h.cell k, bitsR_at hk]
theorem cntF_repl (n : Nat) : cntF (List.replicate n false) = n := by simp [cntF]
theorem cntF_le (l : List Bool) : cntF l ≤ l.length := List.length_filter_le _ _
theorem closed_at {f : FuncM} {op : Int} {l : List Int} {bd0 fn0 bd fn : List Bool} {g : Bool} (h : PassF f op l bd0 fn0 bd fn g f.nb 0 0) : g = false → ∀ a, a < f.nb → ∀ b, ClosedG (succF f) (tF f op l) bd fn a b := fun hg => (h.no hg).2.1
theorem kb0 : kb 0 = false := rfl
theorem kb1 : kb 1 = true := rfl

set_option maxRecDepth 100000 in
set_option maxHeartbeats 200000000 in
theorem good14_any (f : FuncM) (op : Int) (q : IntsM) (blk pl : Nat) (w : World) (hf : FuncAt w f) (hq : IntsAt w q) (hn : f.nb ≤ 1000) (hb : blk < f.nb) (hpl : pl ≤ f.blocks.2[blk]!.insts.2.length) (hbs : ∀ b ∈ f.blocks.2, b.phis.2.length ≤ 100000 ∧ b.insts.2.length ≤ 100000) :
  Calls Tryz.prog 14 #[f.val, .int .i64 op, q.1, .int .i64 (blk : Nat), .int .i64 (pl : Nat)] w fun e w' => (∃ v : Bool, e = .returned (.bool v) ∧ (v = true ↔ GoodP f op q.2 blk pl)) ∧ Keeps w w' [] := by
 have hp : 0 < f.nb := by omega
 have CL := kept (fun (a : Nat) (ha : a < f.nb) (b : Int) W h => leads_any f a b W h ha)
 have CT := kept (fun (a : Nat) (ha : a < f.nb) (pl : Nat) (was : Bool) W (h : FuncAt W f) hq hpl => through38_any f.blocks.2[a]! op q pl was W (h.block _ (bang_mem ha)) hq hpl (hbs _ (bang_mem ha)))
 have HPL := kept hpl
 have HQ := kept hq
 have hmk := make_bools f.nb hn
 obtain ⟨a0, c0, a1, c1, a2, c2, e0, e1, e2, hval, h1, HF, HC0, HC1, HC2, HNV, HNP, HNB⟩ := fopen hf
 simp only [hval] at CL
 rw [hval]
 clear hval h1 e0 e1 e2 hf HC0 HC1 hq hpl hbs
 obtain ⟨HK, Bl⟩ := fbox w 26 #[.slice a0 f.nv c0, .slice a1 f.np c1, .slice a2 f.nb c2]
 obtain ⟨l0, l1, l2⟩ := Bl.out.c3
 simp at l0 l1 l2
 go_enter Tryz.func14, Tryz.ntmps14
 go_upto_region 1 with (fail)
 have hszw : w.heap.size ≤ (w.alloc (.cells #[.slice a0 f.nv c0, .slice a1 f.np c1, .slice a2 f.nb c2] 26)).heap.size := by show _ ≤ (Array.push _ _).size; simp [Array.size_push]
 clear l0 l1 l2
 generalize (w.alloc (.cells #[.slice a0 f.nv c0, .slice a1 f.np c1, .slice a2 f.nb c2] 26)) = W0 at *
 have Bl_W0 := Bl
 have TW0 := HK
 clear HK
 have HK := kept (Keeps.refl W0 [])
 obtain ⟨l0, l1, l2⟩ := Bl.out.c3
 simp at l0 l1 l2
 have HSW := kept hszw
 clear hszw
 go_upto_region 2 with (fail)
 have k3 : Keeps W0 (W0.alloc (.cells (bitsR (List.replicate f.nb false)) 4)) [] := (Keeps.refl _ []).alloc _
 have bb := Blk.new W0 4 (bitsR (List.replicate f.nb false))
 have hs1 : (W0.alloc (.cells (bitsR (List.replicate f.nb false)) 4)).heap.size = W0.heap.size + 1 := size_alloc1 _ _
 clear l0 l1 l2
 replace Bl := kept (Bl.out.keep k3 (by simp))
 replace HK := kept (HK.out.and_then k3)
 obtain ⟨l0, l1, l2⟩ := Bl.out.c3
 simp at l0 l1 l2
 clear k3
 have BB := kept bb
 clear bb
 generalize (W0.alloc (.cells (bitsR (List.replicate f.nb false)) 4)) = W1 at *
 obtain ⟨gb, hgb⟩ : ∃ gb, gb = W0.heap.size := ⟨_, rfl⟩
 rw [← hgb] at BB hs1
 simp only [← hgb]
 have HGB := kept hgb
 clear hgb
 go_upto_region 3 with (fail)
 have k3 : Keeps W1 (W1.alloc (.cells (bitsR (List.replicate f.nb false)) 4)) [] := (Keeps.refl _ []).alloc _
 have bb := Blk.new W1 4 (bitsR (List.replicate f.nb false))
 replace BB := kept (BB.out.keep k3 (by simp))
 clear l0 l1 l2
 replace Bl := kept (Bl.out.keep k3 (by simp))
 replace HK := kept (HK.out.and_then k3)
 obtain ⟨l0, l1, l2⟩ := Bl.out.c3
 simp at l0 l1 l2
 clear k3
 rw [hs1] at bb
 have BF := kept bb
 clear bb
 generalize (W1.alloc (.cells (bitsR (List.replicate f.nb false)) 4)) = W2 at *
 have HNE := kept (show gb ≠ (gb + 1) by omega)
 have HGF := kept (show W0.heap.size ≤ (gb + 1) by have h9 := HGB.out; omega)
 clear hs1 hmk
 have b0 := bitR_cell BB.out (k := 0) (by simpa using hp)
 have b1 := BB.out.frozen 0
 go_upto_region 4 with (fail)
 have kz : Keeps W0 (W2.setCell ⟨gb, 0, none⟩ (.bool true)) [] := HK.out.setCell (.inr (by have h9 := HGB.out; show W0.heap.size ≤ gb; omega)) _
 have bz : Blk (W2.setCell ⟨gb, 0, none⟩ (.bool true)) gb 4 (bitsR ((List.replicate f.nb false).set 0 true)) := by rw [← bitsR_set]; exact BB.out.set_ 0 _
 have bf : Blk (W2.setCell ⟨gb, 0, none⟩ (.bool true)) (gb + 1) 4 (bitsR (List.replicate f.nb false)) := BF.out.keep ((Keeps.refl W2 [gb]).setCell (.inl (by simp)) _) (by simp)
 clear b0 b1
 clear l0 l1 l2
 clear Bl HK BB BF
 generalize (W2.setCell ⟨gb, 0, none⟩ (.bool true)) = W3 at *
 have HK := kept kz
 have Bl := kept (Bl_W0.out.keep kz (by simp))
 have BB := kept bz
 have BF := kept bf
 clear kz bz bf
 obtain ⟨l0, l1, l2⟩ := Bl.out.c3
 simp at l0 l1 l2
 go_wp2
 go_loopg [13] (1 + 2 * f.nb) (fun g a wx => ∃ (b : Bool) (bd fn : List Bool), a = .bool b ∧ Hid (MarkF f op q.2 bd fn) ∧ (b = true → cntF bd + cntF fn + 1 ≤ g) ∧ Hid (b = false → ∀ a, a < f.nb → ∀ b, ClosedG (succF f) (tF f op q.2) bd fn a b) ∧ Blk wx gb 4 (bitsR bd) ∧ Blk wx (gb + 1) 4 (bitsR fn) ∧ Keeps W0 wx [])
 case atStart => exact ⟨true, _, _, rfl, marks_start hp, fun _ => by have h9 := cntF_le ((List.replicate f.nb false).set 0 true); rw [cntF_repl]; simp at h9; omega, fun e => (by cases e), BB.out, BF.out, HK.out⟩
 case round =>
  obtain ⟨b, bd, fn, rfl, hI, hg, hcl, hB, hF2, hr⟩ := hrel
  have HI := kept hI.out
  have HCL := kept hcl.out
  clear hI hcl
  clear BB BF
  clear l0 l1 l2
  clear Bl HK
  have HK := kept hr
  have Bl := kept (Bl_W0.out.keep hr (by simp))
  clear hr
  obtain ⟨l0, l1, l2⟩ := Bl.out.c3
  simp at l0 l1 l2
  have BB := kept hB
  have BF := kept hF2
  clear hB hF2
  cases b
  ·have HD := kept (fun b c => marks_done HI.out (fun a c hc => (succF_mem.1 hc).1) (HCL.out (by first | rfl | trivial)) hp (b := b) (c := c))
   have HA := kept (good_iff HD.out (throughM f.blocks.2[blk]! op q.2 pl) blk)
   clear HCL hg
   have hbz : (blk : Int) < (f.nb : Int) := by omega
   obtain ⟨yb, yo, e8, hyb, hbc⟩ := HC2.out blk (by rw [HNB.out]; exact hb)
   subst e8
   have c0 := bitR_cell BB.out (k := blk) (by rw [HI.out.lb]; exact hb)
   have c1 := bitR_cell BF.out (k := blk) (by rw [HI.out.lf]; exact hb)
   have CT0 := kept (CT.out blk hb pl false)
   have CT1 := kept (CT.out blk hb pl true)
   clear CT CL
   have y0 := (TW0.out.and_then HK.out).cellOf (hbc 0 _ rfl)
   have y1 := (TW0.out.and_then HK.out).cellOf (hbc 1 _ rfl)
   have y2 := (TW0.out.and_then HK.out).cellOf (hbc 2 _ rfl)
   have y3 := (TW0.out.and_then HK.out).cellOf (hbc 3 _ rfl)
   have y4 := (TW0.out.and_then HK.out).cellOf (hbc 4 _ rfl)
   have y5 := (TW0.out.and_then HK.out).cellOf (hbc 5 _ rfl)
   have y6 := (TW0.out.and_then HK.out).cellOf (hbc 6 _ rfl)
   simp only [Nat.add_zero] at y0
   clear hbc HC2
   have HDF := kept (show GoodP f op q.2 blk pl ↔ ∀ g, GWay (succF f) (tF f op q.2) blk g → throughM f.blocks.2[blk]! op q.2 pl g = true from Iff.rfl)
   have HYC := kept (show (f.blocks.2[blk]!).cells.toArray = #[.string (f.blocks.2[blk]!).name, (f.blocks.2[blk]!).phis.1, (f.blocks.2[blk]!).insts.1, .int .i64 (f.blocks.2[blk]!).kind, .int .i64 (f.blocks.2[blk]!).var, .int .i64 (f.blocks.2[blk]!).to0, .int .i64 (f.blocks.2[blk]!).to1] from rfl)
   rw [HYC.out] at CT0 CT1
   generalize throughM f.blocks.2[blk]! op q.2 pl false = tf at *
   generalize throughM f.blocks.2[blk]! op q.2 pl true = tt at *
   generalize (f.blocks.2[blk]!).name = yn at *
   generalize (f.blocks.2[blk]!).phis.1 = yp at *
   generalize (f.blocks.2[blk]!).insts.1 = yi at *
   generalize (f.blocks.2[blk]!).kind = yk at *
   generalize (f.blocks.2[blk]!).var = yv at *
   generalize (f.blocks.2[blk]!).to0 = yt0 at *
   generalize (f.blocks.2[blk]!).to1 = yt1 at *
   generalize bd[blk]! = b0 at *
   generalize fn[blk]! = b1 at *
   cases b0
   ·cases b1
    ·go_wp2
     go_ret
     exact ⟨⟨_, rfl, Iff.trans (by simp) HA.out⟩, (TW0.out.and_then HK.out)⟩
    ·cases tt
     ·go_wp2_with (first | (go_at_call 38; refine (CT1.out _ (HF.out.keep (TW0.out.and_then HK.out)) (Row.keep HQ.out (TW0.out.and_then HK.out)) HPL.out).mono ?_; rintro e w3 ⟨rfl, k3⟩; replace c0 := k3.cellOf c0; replace c1 := k3.cellOf c1; replace y0 := k3.cellOf y0; replace y1 := k3.cellOf y1; replace y2 := k3.cellOf y2; replace y3 := k3.cellOf y3; replace y4 := k3.cellOf y4; replace y5 := k3.cellOf y5; replace y6 := k3.cellOf y6; clear l0 l1 l2; replace Bl := kept (Bl.out.keep k3 (by simp)); replace HK := kept (HK.out.and_then k3); obtain ⟨l0, l1, l2⟩ := Bl.out.c3; simp at l0 l1 l2; clear k3))
      go_ret
      exact ⟨⟨_, rfl, Iff.trans (by simp) HA.out⟩, (TW0.out.and_then HK.out)⟩
     ·go_wp2_with (first | (go_at_call 38; refine (CT1.out _ (HF.out.keep (TW0.out.and_then HK.out)) (Row.keep HQ.out (TW0.out.and_then HK.out)) HPL.out).mono ?_; rintro e w3 ⟨rfl, k3⟩; replace c0 := k3.cellOf c0; replace c1 := k3.cellOf c1; replace y0 := k3.cellOf y0; replace y1 := k3.cellOf y1; replace y2 := k3.cellOf y2; replace y3 := k3.cellOf y3; replace y4 := k3.cellOf y4; replace y5 := k3.cellOf y5; replace y6 := k3.cellOf y6; clear l0 l1 l2; replace Bl := kept (Bl.out.keep k3 (by simp)); replace HK := kept (HK.out.and_then k3); obtain ⟨l0, l1, l2⟩ := Bl.out.c3; simp at l0 l1 l2; clear k3))
      go_ret
      exact ⟨⟨_, rfl, Iff.trans (by simp) HA.out⟩, (TW0.out.and_then HK.out)⟩
   ·cases tf
    ·go_wp2_with (first | (go_at_call 38; have CX0 := CT0; clear CT0; refine (CX0.out _ (HF.out.keep (TW0.out.and_then HK.out)) (Row.keep HQ.out (TW0.out.and_then HK.out)) HPL.out).mono ?_; rintro e w3 ⟨rfl, k3⟩; replace c0 := k3.cellOf c0; replace c1 := k3.cellOf c1; replace y0 := k3.cellOf y0; replace y1 := k3.cellOf y1; replace y2 := k3.cellOf y2; replace y3 := k3.cellOf y3; replace y4 := k3.cellOf y4; replace y5 := k3.cellOf y5; replace y6 := k3.cellOf y6; clear l0 l1 l2; replace Bl := kept (Bl.out.keep k3 (by simp)); replace HK := kept (HK.out.and_then k3); obtain ⟨l0, l1, l2⟩ := Bl.out.c3; simp at l0 l1 l2; clear k3))
     go_ret
     exact ⟨⟨_, rfl, Iff.trans (by simp) HA.out⟩, (TW0.out.and_then HK.out)⟩
    ·cases b1
     ·go_wp2_with (first | (go_at_call 38; have CX0 := CT0; clear CT0; refine (CX0.out _ (HF.out.keep (TW0.out.and_then HK.out)) (Row.keep HQ.out (TW0.out.and_then HK.out)) HPL.out).mono ?_; rintro e w3 ⟨rfl, k3⟩; replace c0 := k3.cellOf c0; replace c1 := k3.cellOf c1; replace y0 := k3.cellOf y0; replace y1 := k3.cellOf y1; replace y2 := k3.cellOf y2; replace y3 := k3.cellOf y3; replace y4 := k3.cellOf y4; replace y5 := k3.cellOf y5; replace y6 := k3.cellOf y6; clear l0 l1 l2; replace Bl := kept (Bl.out.keep k3 (by simp)); replace HK := kept (HK.out.and_then k3); obtain ⟨l0, l1, l2⟩ := Bl.out.c3; simp at l0 l1 l2; clear k3))
      go_ret
      exact ⟨⟨_, rfl, Iff.trans (by simp) HA.out⟩, (TW0.out.and_then HK.out)⟩
     ·cases tt
      ·go_wp2_with (first | (go_at_call 38; have CX0 := CT0; clear CT0; refine (CX0.out _ (HF.out.keep (TW0.out.and_then HK.out)) (Row.keep HQ.out (TW0.out.and_then HK.out)) HPL.out).mono ?_; rintro e w3 ⟨rfl, k3⟩; replace c0 := k3.cellOf c0; replace c1 := k3.cellOf c1; replace y0 := k3.cellOf y0; replace y1 := k3.cellOf y1; replace y2 := k3.cellOf y2; replace y3 := k3.cellOf y3; replace y4 := k3.cellOf y4; replace y5 := k3.cellOf y5; replace y6 := k3.cellOf y6; clear l0 l1 l2; replace Bl := kept (Bl.out.keep k3 (by simp)); replace HK := kept (HK.out.and_then k3); obtain ⟨l0, l1, l2⟩ := Bl.out.c3; simp at l0 l1 l2; clear k3) | (go_at_call 38; refine (CT1.out _ (HF.out.keep (TW0.out.and_then HK.out)) (Row.keep HQ.out (TW0.out.and_then HK.out)) HPL.out).mono ?_; rintro e w3 ⟨rfl, k3⟩; replace c0 := k3.cellOf c0; replace c1 := k3.cellOf c1; replace y0 := k3.cellOf y0; replace y1 := k3.cellOf y1; replace y2 := k3.cellOf y2; replace y3 := k3.cellOf y3; replace y4 := k3.cellOf y4; replace y5 := k3.cellOf y5; replace y6 := k3.cellOf y6; clear l0 l1 l2; replace Bl := kept (Bl.out.keep k3 (by simp)); replace HK := kept (HK.out.and_then k3); obtain ⟨l0, l1, l2⟩ := Bl.out.c3; simp at l0 l1 l2; clear k3))
       go_ret
       exact ⟨⟨_, rfl, Iff.trans (by simp) HA.out⟩, (TW0.out.and_then HK.out)⟩
      ·go_wp2_with (first | (go_at_call 38; have CX0 := CT0; clear CT0; refine (CX0.out _ (HF.out.keep (TW0.out.and_then HK.out)) (Row.keep HQ.out (TW0.out.and_then HK.out)) HPL.out).mono ?_; rintro e w3 ⟨rfl, k3⟩; replace c0 := k3.cellOf c0; replace c1 := k3.cellOf c1; replace y0 := k3.cellOf y0; replace y1 := k3.cellOf y1; replace y2 := k3.cellOf y2; replace y3 := k3.cellOf y3; replace y4 := k3.cellOf y4; replace y5 := k3.cellOf y5; replace y6 := k3.cellOf y6; clear l0 l1 l2; replace Bl := kept (Bl.out.keep k3 (by simp)); replace HK := kept (HK.out.and_then k3); obtain ⟨l0, l1, l2⟩ := Bl.out.c3; simp at l0 l1 l2; clear k3) | (go_at_call 38; refine (CT1.out _ (HF.out.keep (TW0.out.and_then HK.out)) (Row.keep HQ.out (TW0.out.and_then HK.out)) HPL.out).mono ?_; rintro e w3 ⟨rfl, k3⟩; replace c0 := k3.cellOf c0; replace c1 := k3.cellOf c1; replace y0 := k3.cellOf y0; replace y1 := k3.cellOf y1; replace y2 := k3.cellOf y2; replace y3 := k3.cellOf y3; replace y4 := k3.cellOf y4; replace y5 := k3.cellOf y5; replace y6 := k3.cellOf y6; clear l0 l1 l2; replace Bl := kept (Bl.out.keep k3 (by simp)); replace HK := kept (HK.out.and_then k3); obtain ⟨l0, l1, l2⟩ := Bl.out.c3; simp at l0 l1 l2; clear k3))
       go_ret
       exact ⟨⟨_, rfl, Iff.trans (by simp) HA.out⟩, (TW0.out.and_then HK.out)⟩
  ·have HGH := kept (hg rfl)
   clear hg HCL
   go_wp2
   go_loopw [13, 33] (fun a' i' wx => ∃ (x : Nat) (g' : Bool) (bd' fn' : List Bool), x ≤ f.nb ∧ i' = .int .i64 x ∧ a' = .bool g' ∧ Hid (PassF f op q.2 bd fn bd' fn' g' x 0 0) ∧ Blk wx gb 4 (bitsR bd') ∧ Blk wx (gb + 1) 4 (bitsR fn') ∧ Keeps W0 wx []) (fun _ i' _ => f.nb - (intOf i').toNat)
   case atStart => exact ⟨0, false, bd, fn, Nat.zero_le _, rfl, rfl, gp_start HI.out, BB.out, BF.out, HK.out⟩
   case round =>
    obtain ⟨x, g', bd', fn', hx, rfl, rfl, hPI, hB, hF2, hr⟩ := hrel
    have HPI := kept hPI.out
    clear hPI BB BF
    clear l0 l1 l2
    clear Bl HK
    have HK := kept hr
    have Bl := kept (Bl_W0.out.keep hr (by simp))
    clear hr
    obtain ⟨l0, l1, l2⟩ := Bl.out.c3
    simp at l0 l1 l2
    have BB := kept hB
    have BF := kept hF2
    clear hB hF2
    by_cases hlx : x < f.nb
    ·have hlxz : (x : Int) < (f.nb : Int) := by omega
     obtain ⟨yb, yo, e8, hyb, hbc⟩ := HC2.out x (by rw [HNB.out]; exact hlx)
     obtain rfl := e8
     have y0 := (TW0.out.and_then HK.out).cellOf (hbc 0 _ rfl)
     have y1 := (TW0.out.and_then HK.out).cellOf (hbc 1 _ rfl)
     have y2 := (TW0.out.and_then HK.out).cellOf (hbc 2 _ rfl)
     have y3 := (TW0.out.and_then HK.out).cellOf (hbc 3 _ rfl)
     have y4 := (TW0.out.and_then HK.out).cellOf (hbc 4 _ rfl)
     have y5 := (TW0.out.and_then HK.out).cellOf (hbc 5 _ rfl)
     have y6 := (TW0.out.and_then HK.out).cellOf (hbc 6 _ rfl)
     simp only [Nat.add_zero] at y0
     clear hbc
     have CTx := kept (fun (was : Bool) W (h : FuncAt W f) hq => CT.out x hlx f.blocks.2[x]!.insts.2.length was W h hq (Nat.le_refl _))
     have CLx := kept (CL.out x hlx)
     have HTF := kept (fun g => show tF f op q.2 x g = throughM f.blocks.2[x]! op q.2 f.blocks.2[x]!.insts.2.length g from rfl)
     obtain ⟨qa, qc, e7, -, -, -⟩ := (HF.out.block _ (bang_mem hlx)).insts.open_
     rw [e7] at y2
     obtain ⟨pa, pc, e6, -, -, -⟩ := (HF.out.block _ (bang_mem hlx)).phis.open_
     rw [e6] at y1
     have HYC := kept (show (f.blocks.2[x]!).cells.toArray = #[.string (f.blocks.2[x]!).name, .slice pa (f.blocks.2[x]!).phis.2.length pc, .slice qa (f.blocks.2[x]!).insts.2.length qc, .int .i64 (f.blocks.2[x]!).kind, .int .i64 (f.blocks.2[x]!).var, .int .i64 (f.blocks.2[x]!).to0, .int .i64 (f.blocks.2[x]!).to1] by unfold BlockM.cells; rw [e6, e7])
     rw [HYC.out] at CTx
     clear HYC e6 e7 HC2
     obtain ⟨TH, hTH⟩ : ∃ TH : Bool → Bool, ∀ g, throughM f.blocks.2[x]! op q.2 f.blocks.2[x]!.insts.2.length g = TH g := ⟨_, fun _ => rfl⟩
     simp only [hTH] at CTx HTF
     clear hTH
     generalize (f.blocks.2[x]!).name = yn at *
     generalize (f.blocks.2[x]!).phis.2.length = pn at *
     generalize (f.blocks.2[x]!).insts.2.length = yil at *
     generalize (f.blocks.2[x]!).kind = yk at *
     generalize (f.blocks.2[x]!).var = yv at *
     generalize (f.blocks.2[x]!).to0 = yt0 at *
     generalize (f.blocks.2[x]!).to1 = yt1 at *
     go_upto_region 10 with (fail)
     clear y0 y1 y2 y3 y4 y5 y6
     have HBL := kept (show gb < wr.heap.size ∧ (gb + 1) < wr.heap.size from ⟨BB.out.lt, BF.out.lt⟩)
     have kx : Keeps wr (wr.alloc (.cells #[.string yn, .slice pa pn pc, .slice qa yil qc, .int .i64 yk, .int .i64 yv, .int .i64 yt0, .int .i64 yt1] 38)) [] := (Keeps.refl wr []).alloc _
     replace BB := kept (BB.out.keep kx (by simp))
     replace BF := kept (BF.out.keep kx (by simp))
     clear kx
     clear l0 l1 l2
     have bmx := Blk.new wr 38 #[.string yn, .slice pa pn pc, .slice qa yil qc, .int .i64 yk, .int .i64 yv, .int .i64 yt0, .int .i64 yt1]
     have k3 : Keeps wr (wr.alloc (.cells #[.string yn, .slice pa pn pc, .slice qa yil qc, .int .i64 yk, .int .i64 yv, .int .i64 yt0, .int .i64 yt1] 38)) [] := (Keeps.refl wr []).alloc _
     replace Bl := kept (Bl.out.keep k3 (by simp))
     replace HK := kept (HK.out.and_then k3)
     have Bx := kept bmx
     clear k3 bmx
     obtain ⟨l0, l1, l2⟩ := Bl.out.c3
     obtain ⟨x0, x1, x2, x3, x4, x5, x6⟩ := Bx.out.c7
     simp at l0 l1 l2 x0 x1 x2 x3 x4 x5 x6
     generalize hWX : (wr.alloc (.cells #[.string yn, .slice pa pn pc, .slice qa yil qc, .int .i64 yk, .int .i64 yv, .int .i64 yt0, .int .i64 yt1] 38)) = W4 at *
     clear hWX
     generalize wr.heap.size = bx at *
     clear l0 l1 l2 x0 x1 x2 x3 x4 x5 x6
     obtain ⟨l0, l1, l2⟩ := Bl.out.c3
     obtain ⟨x0, x1, x2, x3, x4, x5, x6⟩ := Bx.out.c7
     simp at l0 l1 l2 x0 x1 x2 x3 x4 x5 x6
     have HBX := kept (show gb ≠ bx ∧ (gb + 1) ≠ bx from ⟨fun e => by have h9 := HBL.out.1; omega, fun e => by have h9 := HBL.out.2; omega⟩)
     clear HBL
     go_wp2
     go_loopw [13, 38] (fun a' i' wx => ∃ (k : Nat) (g2 : Bool) (bd2 fn2 : List Bool), k ≤ 2 ∧ i' = .int .i64 k ∧ a' = .bool g2 ∧ Hid (PassF f op q.2 bd fn bd2 fn2 g2 x k 0) ∧ Blk wx gb 4 (bitsR bd2) ∧ Blk wx (gb + 1) 4 (bitsR fn2) ∧ Blk wx bx 38 #[.string yn, .slice pa pn pc, .slice qa yil qc, .int .i64 yk, .int .i64 yv, .int .i64 yt0, .int .i64 yt1] ∧ Keeps W0 wx []) (fun _ i' _ => 2 - (intOf i').toNat)
     case atStart => exact ⟨0, g', bd', fn', Nat.zero_le _, rfl, rfl, HPI.out, BB.out, BF.out, Bx.out, HK.out⟩
     case round =>
      obtain ⟨k, g2, bd2, fn2, hk, rfl, rfl, hPJ, hB, hF2, hX, hr⟩ := hrel
      have HPJ := kept hPJ.out
      clear hPJ BB BF
      clear l0 l1 l2 x0 x1 x2 x3 x4 x5 x6
      clear Bl Bx HK
      have HK := kept hr
      have Bl := kept (Bl_W0.out.keep hr (by simp))
      have Bx := kept hX
      clear hr hX
      obtain ⟨l0, l1, l2⟩ := Bl.out.c3
      obtain ⟨x0, x1, x2, x3, x4, x5, x6⟩ := Bx.out.c7
      simp at l0 l1 l2 x0 x1 x2 x3 x4 x5 x6
      have BB := kept hB
      have BF := kept hF2
      clear hB hF2
      by_cases hlk : k < 2
      ·have hlkz : (k : Int) < 2 := by omega
       rcases (by omega : k = 0 ∨ k = 1) with hk0 | hk0
       ·have HK0 := kept hk0
        have hiz : ((k : Int) == 0) = iseq k 0 := rfl
        have hz0 : iseq k 0 = true := iseq_t (by omega)
        have hio : ((k : Int) == 1) = iseq k 1 := rfl
        have hz1 : iseq k 1 = false := iseq_f (by omega)
        have hkb : kb k = false := by have e9 : k = 0 := (by omega); rw [e9]; rfl
        have HKB := kept hkb
        clear hkb
        have bx0 := bitR_cell BB.out (k := x) (by rw [HPJ.out.i.lb]; exact hlx)
        have HMK := kept (show mkd bd2 fn2 (kb k) x = bd2[x]! by rw [HKB.out]; rfl)
        generalize bd2[x]! = mb at bx0 HMK
        cases mb
        ·go_wp2
         go_roundw
         case rel => exact ⟨k + 1, g2, bd2, fn2, by omega, by go_num, by first | rfl | trivial, gp_skip HPJ.out HMK.out, BB.out, BF.out, Bx.out, HK.out⟩
         case measure => simp [intOf]; omega
        ·have HMK2 := kept HMK.out
         clear HMK
         have CTy := kept (CTx.out false)
         clear CTx
         have HTG := kept (show tF f op q.2 x (kb k) = TH false by rw [HKB.out]; exact HTF.out _)
         generalize TH false = gd at *
         go_upto_region 15 with (first | (go_at_call 38; refine (CTy.out _ (HF.out.keep (TW0.out.and_then HK.out)) (Row.keep HQ.out (TW0.out.and_then HK.out))).mono ?_; rintro e w3 ⟨rfl, k3⟩; replace BB := kept (BB.out.keep k3 (by simp)); replace BF := kept (BF.out.keep k3 (by simp)); clear l0 l1 l2 x0 x1 x2 x3 x4 x5 x6; replace Bl := kept (Bl.out.keep k3 (by simp)); replace Bx := kept (Bx.out.keep k3 (by simp)); replace HK := kept (HK.out.and_then k3); obtain ⟨l0, l1, l2⟩ := Bl.out.c3; obtain ⟨x0, x1, x2, x3, x4, x5, x6⟩ := Bx.out.c7; simp at l0 l1 l2 x0 x1 x2 x3 x4 x5 x6; clear k3))
         try clear bx0
         go_wp2
         go_loopw [13, 73] (fun a' i' wx => ∃ (y : Nat) (g3 : Bool) (bd3 fn3 : List Bool), y ≤ f.nb ∧ i' = .int .i64 y ∧ a' = .bool g3 ∧ Hid (PassF f op q.2 bd fn bd3 fn3 g3 x k y) ∧ Hid (mkd bd3 fn3 (kb k) x = true) ∧ Blk wx gb 4 (bitsR bd3) ∧ Blk wx (gb + 1) 4 (bitsR fn3) ∧ Blk wx bx 38 #[.string yn, .slice pa pn pc, .slice qa yil qc, .int .i64 yk, .int .i64 yv, .int .i64 yt0, .int .i64 yt1] ∧ Keeps W0 wx []) (fun _ i' _ => f.nb - (intOf i').toNat)
         case atStart => exact ⟨0, g2, bd2, fn2, Nat.zero_le _, rfl, rfl, HPJ.out, HMK2.out, BB.out, BF.out, Bx.out, HK.out⟩
         case round =>
          obtain ⟨y, g3, bd3, fn3, hy, rfl, rfl, hPK, hMK, hB, hF2, hX, hr⟩ := hrel
          have HPK := kept hPK.out
          have HMK := kept hMK.out
          clear hPK hMK BB BF HPJ HMK2
          clear l0 l1 l2 x0 x1 x2 x3 x4 x5 x6
          clear Bl Bx HK
          have HK := kept hr
          have Bl := kept (Bl_W0.out.keep hr (by simp))
          have Bx := kept hX
          clear hr hX
          obtain ⟨l0, l1, l2⟩ := Bl.out.c3
          obtain ⟨x0, x1, x2, x3, x4, x5, x6⟩ := Bx.out.c7
          simp at l0 l1 l2 x0 x1 x2 x3 x4 x5 x6
          have BB := kept hB
          have BF := kept hF2
          clear hB hF2
          by_cases hly : y < f.nb
          ·have hlyz : (y : Int) < (f.nb : Int) := by omega
           have CLy := kept (CLx.out (y : Int))
           clear CLx
           have HLD := kept (show leadsM f.blocks.2[x]! (y : Int) = leadsM f.blocks.2[x]! (y : Int) from rfl)
           generalize hld : leadsM f.blocks.2[x]! (y : Int) = ld at CLy
           have HLE := kept hld
           clear hld HLD
           cases ld
           ·go_wp2_with (first | (go_at_call 39; refine (CLy.out _ (HF.out.keep (TW0.out.and_then HK.out))).mono ?_; rintro e w3 ⟨rfl, k3⟩; replace BB := kept (BB.out.keep k3 (by simp)); replace BF := kept (BF.out.keep k3 (by simp)); clear l0 l1 l2 x0 x1 x2 x3 x4 x5 x6; replace Bl := kept (Bl.out.keep k3 (by simp)); replace Bx := kept (Bx.out.keep k3 (by simp)); replace HK := kept (HK.out.and_then k3); obtain ⟨l0, l1, l2⟩ := Bl.out.c3; obtain ⟨x0, x1, x2, x3, x4, x5, x6⟩ := Bx.out.c7; simp at l0 l1 l2 x0 x1 x2 x3 x4 x5 x6; clear k3))
            go_roundw
            case rel => exact ⟨y + 1, g3, bd3, fn3, by omega, by go_num, by first | rfl | trivial, gp_same HPK.out (fun e => by have h9 := (succF_mem.1 e).2; rw [HLE.out] at h9; cases h9), HMK.out, BB.out, BF.out, Bx.out, HK.out⟩
            case measure => simp [intOf]; omega
           ·go_upto_region 19 with (first | (go_at_call 39; refine (CLy.out _ (HF.out.keep (TW0.out.and_then HK.out))).mono ?_; rintro e w3 ⟨rfl, k3⟩; replace BB := kept (BB.out.keep k3 (by simp)); replace BF := kept (BF.out.keep k3 (by simp)); clear l0 l1 l2 x0 x1 x2 x3 x4 x5 x6; replace Bl := kept (Bl.out.keep k3 (by simp)); replace Bx := kept (Bx.out.keep k3 (by simp)); replace HK := kept (HK.out.and_then k3); obtain ⟨l0, l1, l2⟩ := Bl.out.c3; obtain ⟨x0, x1, x2, x3, x4, x5, x6⟩ := Bx.out.c7; simp at l0 l1 l2 x0 x1 x2 x3 x4 x5 x6; clear k3))
            have HS := kept (show y ∈ succF f x from succF_mem.2 ⟨hly, HLE.out⟩)
            cases gd
            ·have by0 := bitR_cell BB.out (k := y) (by rw [HPK.out.i.lb]; exact hly)
             have by1 := BB.out.frozen y
             have HBQ := kept (show bd3[y]! = bd3[y]! from rfl)
             generalize hbq : bd3[y]! = bq at by0
             replace HBQ := kept hbq
             clear hbq
             cases bq
             ·go_wp2
              go_roundw
              case rel => exact ⟨y + 1, true, (bd3.set y true), fn3, by omega, by go_num, by first | rfl | trivial, gp_bad HPK.out HMK.out HS.out hly HTG.out HBQ.out, (mkd_bad_keep (by rw [HPK.out.i.lb]; exact hly) HMK.out), (by rw [← bitsR_set]; exact BB.out.set_ y _), (BF.out.keep ((Keeps.refl _ [gb]).setCell (.inl (by simp)) _) (by simp)), (Bx.out.keep ((Keeps.refl _ [gb]).setCell (.inl (by simp)) _) (by simp; exact fun e => HBX.out.1 e.symm)), (HK.out.setCell (.inr (by have h9 := HGB.out; show W0.heap.size ≤ gb; omega)) _)⟩
              case measure => simp [intOf]; omega
             ·go_wp2
              go_roundw
              case rel => exact ⟨y + 1, g3, bd3, fn3, by omega, by go_num, by first | rfl | trivial, gp_same HPK.out (fun _ => by rw [HTG.out]; unfold mkd; simpa using HBQ.out), HMK.out, BB.out, BF.out, Bx.out, HK.out⟩
              case measure => simp [intOf]; omega
            ·have by0 := bitR_cell BF.out (k := y) (by rw [HPK.out.i.lf]; exact hly)
             have by1 := BF.out.frozen y
             have HBQ := kept (show fn3[y]! = fn3[y]! from rfl)
             generalize hbq : fn3[y]! = bq at by0
             replace HBQ := kept hbq
             clear hbq
             cases bq
             ·go_wp2
              go_roundw
              case rel => exact ⟨y + 1, true, bd3, (fn3.set y true), by omega, by go_num, by first | rfl | trivial, gp_fine HPK.out HMK.out HS.out hly HTG.out HBQ.out, (mkd_fine_keep (by rw [HPK.out.i.lf]; exact hly) HMK.out), (BB.out.keep ((Keeps.refl _ [gb + 1]).setCell (.inl (by simp)) _) (by simp)), (by rw [← bitsR_set]; exact BF.out.set_ y _), (Bx.out.keep ((Keeps.refl _ [gb + 1]).setCell (.inl (by simp)) _) (by simp; exact fun e => HBX.out.2 e.symm)), (HK.out.setCell (.inr (HGF.out)) _)⟩
              case measure => simp [intOf]; omega
             ·go_wp2
              go_roundw
              case rel => exact ⟨y + 1, g3, bd3, fn3, by omega, by go_num, by first | rfl | trivial, gp_same HPK.out (fun _ => by rw [HTG.out]; unfold mkd; simpa using HBQ.out), HMK.out, BB.out, BF.out, Bx.out, HK.out⟩
              case measure => simp [intOf]; omega
          ·have hlyz : ¬ (y : Int) < (f.nb : Int) := by omega
           obtain rfl : y = f.nb := by omega
           go_wp2
           go_roundw
           case rel => exact ⟨k + 1, g3, bd3, fn3, by omega, by go_num, by first | rfl | trivial, gp_mark HPK.out (fun c hc => (succF_mem.1 hc).1), BB.out, BF.out, Bx.out, HK.out⟩
           case measure => simp [intOf]; omega
       ·have HK0 := kept hk0
        have hiz : ((k : Int) == 0) = iseq k 0 := rfl
        have hz0 : iseq k 0 = false := iseq_f (by omega)
        have hio : ((k : Int) == 1) = iseq k 1 := rfl
        have hz1 : iseq k 1 = true := iseq_t (by omega)
        have hkb : kb k = true := by have e9 : k = 1 := (by omega); rw [e9]; rfl
        have HKB := kept hkb
        clear hkb
        have bx0 := bitR_cell BF.out (k := x) (by rw [HPJ.out.i.lf]; exact hlx)
        have HMK := kept (show mkd bd2 fn2 (kb k) x = fn2[x]! by rw [HKB.out]; rfl)
        generalize fn2[x]! = mb at bx0 HMK
        cases mb
        ·go_wp2
         go_roundw
         case rel => exact ⟨k + 1, g2, bd2, fn2, by omega, by go_num, by first | rfl | trivial, gp_skip HPJ.out HMK.out, BB.out, BF.out, Bx.out, HK.out⟩
         case measure => simp [intOf]; omega
        ·have HMK2 := kept HMK.out
         clear HMK
         have CTy := kept (CTx.out true)
         clear CTx
         have HTG := kept (show tF f op q.2 x (kb k) = TH true by rw [HKB.out]; exact HTF.out _)
         generalize TH true = gd at *
         go_upto_region 15 with (first | (go_at_call 38; refine (CTy.out _ (HF.out.keep (TW0.out.and_then HK.out)) (Row.keep HQ.out (TW0.out.and_then HK.out))).mono ?_; rintro e w3 ⟨rfl, k3⟩; replace BB := kept (BB.out.keep k3 (by simp)); replace BF := kept (BF.out.keep k3 (by simp)); clear l0 l1 l2 x0 x1 x2 x3 x4 x5 x6; replace Bl := kept (Bl.out.keep k3 (by simp)); replace Bx := kept (Bx.out.keep k3 (by simp)); replace HK := kept (HK.out.and_then k3); obtain ⟨l0, l1, l2⟩ := Bl.out.c3; obtain ⟨x0, x1, x2, x3, x4, x5, x6⟩ := Bx.out.c7; simp at l0 l1 l2 x0 x1 x2 x3 x4 x5 x6; clear k3))
         try clear bx0
         go_wp2
         go_loopw [13, 73] (fun a' i' wx => ∃ (y : Nat) (g3 : Bool) (bd3 fn3 : List Bool), y ≤ f.nb ∧ i' = .int .i64 y ∧ a' = .bool g3 ∧ Hid (PassF f op q.2 bd fn bd3 fn3 g3 x k y) ∧ Hid (mkd bd3 fn3 (kb k) x = true) ∧ Blk wx gb 4 (bitsR bd3) ∧ Blk wx (gb + 1) 4 (bitsR fn3) ∧ Blk wx bx 38 #[.string yn, .slice pa pn pc, .slice qa yil qc, .int .i64 yk, .int .i64 yv, .int .i64 yt0, .int .i64 yt1] ∧ Keeps W0 wx []) (fun _ i' _ => f.nb - (intOf i').toNat)
         case atStart => exact ⟨0, g2, bd2, fn2, Nat.zero_le _, rfl, rfl, HPJ.out, HMK2.out, BB.out, BF.out, Bx.out, HK.out⟩
         case round =>
          obtain ⟨y, g3, bd3, fn3, hy, rfl, rfl, hPK, hMK, hB, hF2, hX, hr⟩ := hrel
          have HPK := kept hPK.out
          have HMK := kept hMK.out
          clear hPK hMK BB BF HPJ HMK2
          clear l0 l1 l2 x0 x1 x2 x3 x4 x5 x6
          clear Bl Bx HK
          have HK := kept hr
          have Bl := kept (Bl_W0.out.keep hr (by simp))
          have Bx := kept hX
          clear hr hX
          obtain ⟨l0, l1, l2⟩ := Bl.out.c3
          obtain ⟨x0, x1, x2, x3, x4, x5, x6⟩ := Bx.out.c7
          simp at l0 l1 l2 x0 x1 x2 x3 x4 x5 x6
          have BB := kept hB
          have BF := kept hF2
          clear hB hF2
          by_cases hly : y < f.nb
          ·have hlyz : (y : Int) < (f.nb : Int) := by omega
           have CLy := kept (CLx.out (y : Int))
           clear CLx
           have HLD := kept (show leadsM f.blocks.2[x]! (y : Int) = leadsM f.blocks.2[x]! (y : Int) from rfl)
           generalize hld : leadsM f.blocks.2[x]! (y : Int) = ld at CLy
           have HLE := kept hld
           clear hld HLD
           cases ld
           ·go_wp2_with (first | (go_at_call 39; refine (CLy.out _ (HF.out.keep (TW0.out.and_then HK.out))).mono ?_; rintro e w3 ⟨rfl, k3⟩; replace BB := kept (BB.out.keep k3 (by simp)); replace BF := kept (BF.out.keep k3 (by simp)); clear l0 l1 l2 x0 x1 x2 x3 x4 x5 x6; replace Bl := kept (Bl.out.keep k3 (by simp)); replace Bx := kept (Bx.out.keep k3 (by simp)); replace HK := kept (HK.out.and_then k3); obtain ⟨l0, l1, l2⟩ := Bl.out.c3; obtain ⟨x0, x1, x2, x3, x4, x5, x6⟩ := Bx.out.c7; simp at l0 l1 l2 x0 x1 x2 x3 x4 x5 x6; clear k3))
            go_roundw
            case rel => exact ⟨y + 1, g3, bd3, fn3, by omega, by go_num, by first | rfl | trivial, gp_same HPK.out (fun e => by have h9 := (succF_mem.1 e).2; rw [HLE.out] at h9; cases h9), HMK.out, BB.out, BF.out, Bx.out, HK.out⟩
            case measure => simp [intOf]; omega
           ·go_upto_region 19 with (first | (go_at_call 39; refine (CLy.out _ (HF.out.keep (TW0.out.and_then HK.out))).mono ?_; rintro e w3 ⟨rfl, k3⟩; replace BB := kept (BB.out.keep k3 (by simp)); replace BF := kept (BF.out.keep k3 (by simp)); clear l0 l1 l2 x0 x1 x2 x3 x4 x5 x6; replace Bl := kept (Bl.out.keep k3 (by simp)); replace Bx := kept (Bx.out.keep k3 (by simp)); replace HK := kept (HK.out.and_then k3); obtain ⟨l0, l1, l2⟩ := Bl.out.c3; obtain ⟨x0, x1, x2, x3, x4, x5, x6⟩ := Bx.out.c7; simp at l0 l1 l2 x0 x1 x2 x3 x4 x5 x6; clear k3))
            have HS := kept (show y ∈ succF f x from succF_mem.2 ⟨hly, HLE.out⟩)
            cases gd
            ·have by0 := bitR_cell BB.out (k := y) (by rw [HPK.out.i.lb]; exact hly)
             have by1 := BB.out.frozen y
             have HBQ := kept (show bd3[y]! = bd3[y]! from rfl)
             generalize hbq : bd3[y]! = bq at by0
             replace HBQ := kept hbq
             clear hbq
             cases bq
             ·go_wp2
              go_roundw
              case rel => exact ⟨y + 1, true, (bd3.set y true), fn3, by omega, by go_num, by first | rfl | trivial, gp_bad HPK.out HMK.out HS.out hly HTG.out HBQ.out, (mkd_bad_keep (by rw [HPK.out.i.lb]; exact hly) HMK.out), (by rw [← bitsR_set]; exact BB.out.set_ y _), (BF.out.keep ((Keeps.refl _ [gb]).setCell (.inl (by simp)) _) (by simp)), (Bx.out.keep ((Keeps.refl _ [gb]).setCell (.inl (by simp)) _) (by simp; exact fun e => HBX.out.1 e.symm)), (HK.out.setCell (.inr (by have h9 := HGB.out; show W0.heap.size ≤ gb; omega)) _)⟩
              case measure => simp [intOf]; omega
             ·go_wp2
              go_roundw
              case rel => exact ⟨y + 1, g3, bd3, fn3, by omega, by go_num, by first | rfl | trivial, gp_same HPK.out (fun _ => by rw [HTG.out]; unfold mkd; simpa using HBQ.out), HMK.out, BB.out, BF.out, Bx.out, HK.out⟩
              case measure => simp [intOf]; omega
            ·have by0 := bitR_cell BF.out (k := y) (by rw [HPK.out.i.lf]; exact hly)
             have by1 := BF.out.frozen y
             have HBQ := kept (show fn3[y]! = fn3[y]! from rfl)
             generalize hbq : fn3[y]! = bq at by0
             replace HBQ := kept hbq
             clear hbq
             cases bq
             ·go_wp2
              go_roundw
              case rel => exact ⟨y + 1, true, bd3, (fn3.set y true), by omega, by go_num, by first | rfl | trivial, gp_fine HPK.out HMK.out HS.out hly HTG.out HBQ.out, (mkd_fine_keep (by rw [HPK.out.i.lf]; exact hly) HMK.out), (BB.out.keep ((Keeps.refl _ [gb + 1]).setCell (.inl (by simp)) _) (by simp)), (by rw [← bitsR_set]; exact BF.out.set_ y _), (Bx.out.keep ((Keeps.refl _ [gb + 1]).setCell (.inl (by simp)) _) (by simp; exact fun e => HBX.out.2 e.symm)), (HK.out.setCell (.inr (HGF.out)) _)⟩
              case measure => simp [intOf]; omega
             ·go_wp2
              go_roundw
              case rel => exact ⟨y + 1, g3, bd3, fn3, by omega, by go_num, by first | rfl | trivial, gp_same HPK.out (fun _ => by rw [HTG.out]; unfold mkd; simpa using HBQ.out), HMK.out, BB.out, BF.out, Bx.out, HK.out⟩
              case measure => simp [intOf]; omega
          ·have hlyz : ¬ (y : Int) < (f.nb : Int) := by omega
           obtain rfl : y = f.nb := by omega
           go_wp2
           go_roundw
           case rel => exact ⟨k + 1, g3, bd3, fn3, by omega, by go_num, by first | rfl | trivial, gp_mark HPK.out (fun c hc => (succF_mem.1 hc).1), BB.out, BF.out, Bx.out, HK.out⟩
           case measure => simp [intOf]; omega
      ·have hlkz : ¬ (k : Int) < 2 := by omega
       obtain hk2 : k = 2 := by omega
       have HPB := kept (gp_block (hk2 ▸ HPJ.out))
       go_wp2
       go_roundw
       case rel => exact ⟨x + 1, g2, bd2, fn2, by omega, by go_num, by first | rfl | trivial, HPB.out, BB.out, BF.out, HK.out⟩
       case measure => simp [intOf]; omega
    ·have hlxz : ¬ (x : Int) < (f.nb : Int) := by omega
     obtain rfl : x = f.nb := by omega
     go_wp2
     obtain ⟨gq, rfl⟩ : ∃ gq, gk = gq + 1 := ⟨gk - 1, by have h9 := HGH.out; omega⟩
     go_roundg gq
     case measure => omega
     case rel => exact ⟨g', bd', fn', rfl, HPI.out.i, fun e => by have h9 := HGH.out; have h8 := HPI.out.yes e; omega, closed_at HPI.out, BB.out, BF.out, HK.out⟩
def BitsRet (w : World) (P : List Bool → Prop) (e : Ending) (w' : World) : Prop := ∃ (g : Nat) (l : List Bool), e = .returned (.slice (some ⟨g, 0, none⟩) l.length l.length) ∧ Blk w' g 4 (bitsR l) ∧ P l ∧ w.heap.size ≤ g ∧ Keeps w w' []
theorem bit_cell {w : World} {g k : Nat} {l : List Bool} (h : Blk w g 4 (bitsR l)) (hk : k < l.length) : w.cell? ⟨g, k, none⟩ = some (.bool l[k]!) := by rw [h.cell k, bitsR_at hk]
/-- what a pass has come to: x' blocks and y' ends of the next are done -/
structure PassI (f : FuncM) (l0 l : List Bool) (g : Bool) (x y : Nat) : Prop where
 i : FromI f l
 no : g = false → l = l0 ∧ (∀ x', x' < x → FromC f l x') ∧ ∀ y', y' < y → (x = 0 ∨ l[x]! = true) → leadsM f.blocks.2[x]! (y' : Int) = true → l[y']! = true
 yes : g = true → cntF l < cntF l0
theorem pass_next {f : FuncM} {l0 l : List Bool} {g : Bool} {x : Nat} (h : PassI f l0 l g x f.nb) : PassI f l0 l g (x + 1) 0 :=
 ⟨h.i, fun hg => ⟨(h.no hg).1, fun x' hx' => by
  rcases Nat.lt_succ_iff_lt_or_eq.1 hx' with h1 | rfl
  ·exact (h.no hg).2.1 x' h1
  ·intro hr y hy
   obtain ⟨h1, h2⟩ := succF_mem.1 hy
   exact (h.no hg).2.2 y h1 hr h2, fun y' hy' => absurd hy' (Nat.not_lt_zero _)⟩, h.yes⟩
theorem pass_skip {f : FuncM} {l0 l : List Bool} {g : Bool} {x : Nat} (h : PassI f l0 l g x 0) (hr : ¬ (x = 0 ∨ l[x]! = true)) : PassI f l0 l g (x + 1) 0 :=
 pass_next ⟨h.i, fun hg => ⟨(h.no hg).1, (h.no hg).2.1, fun y' _ hh => absurd hh hr⟩, h.yes⟩
theorem pass_same {f : FuncM} {l0 l : List Bool} {g : Bool} {x y : Nat} (h : PassI f l0 l g x y) (hr : l[y]! = true ∨ leadsM f.blocks.2[x]! (y : Int) = false) : PassI f l0 l g x (y + 1) :=
 ⟨h.i, fun hg => ⟨(h.no hg).1, (h.no hg).2.1, fun y' hy' h1 h2 => by
  rcases Nat.lt_succ_iff_lt_or_eq.1 hy' with h3 | rfl
  ·exact (h.no hg).2.2 y' h3 h1 h2
  ·rcases hr with hr | hr
   ·exact hr
   ·rw [hr] at h2; cases h2⟩, h.yes⟩
theorem pass_put {f : FuncM} {l0 l : List Bool} {g : Bool} {x y : Nat} (h : PassI f l0 l g x y) (hx : x < f.nb) (hxr : x = 0 ∨ l[x]! = true) (hy : y < f.nb) (hl : leadsM f.blocks.2[x]! (y : Int) = true) (hf : l[y]! = false) : PassI f l0 (l.set y true) true x (y + 1) := by
 have hc := cntF_set l y (by rw [h.i.len]; exact hy) hf
 refine ⟨from_set h.i hx hxr hy hl, fun e => (by cases e), fun _ => ?_⟩
 cases g with
 | true => have := h.yes rfl; omega
 | false => have := (h.no rfl).1; subst this; omega
/-- these are just the blocks to which a way of one step or more leads -/
def ReachB (f : FuncM) (l : List Bool) : Prop := l.length = f.nb ∧ ∀ y, y < f.nb → (l[y]! = true ↔ R1 f y)
def isz (x : Nat) : Bool := ((x : Int) == 0)
theorem cntF_rep (n : Nat) : cntF (List.replicate n false) = n := by simp [cntF]
theorem keep_bit {f : FuncM} {l : List Bool} {x y : Nat} (h : FromI f l) (hy : y < f.nb) (hx : x = 0 ∨ l[x]! = true) : x = 0 ∨ (l.set y true)[x]! = true := hx.imp id (fun hx => by
 rw [lb_set (by rw [h.len]; exact hy)]; split
 ·rfl
 ·exact hx)

set_option maxRecDepth 100000 in
set_option maxHeartbeats 200000000 in
theorem from37_any (f : FuncM) (w : World) (hf : FuncAt w f) (hp : 0 < f.nb) (hn : f.nb ≤ 1000) : Calls Tryz.prog 37 #[f.val, .int .i64 0, .int .i64 (-1)] w (BitsRet w (ReachB f)) := by
 have CL := kept (fun (a : Nat) (ha : a < f.nb) (b : Int) W h => leads_any f a b W h ha)
 have hmk := make_bools f.nb hn
 obtain ⟨a0, c0, a1, c1, a2, c2, e0, e1, e2, hval, h1, HF, HC0, HC1, HC2, HNV, HNP, HNB⟩ := fopen hf
 simp only [hval] at CL
 rw [hval]
 clear hval h1 e0 e1 e2 hf HC0 HC1 HC2
 obtain ⟨HK, Bl⟩ := fbox w 26 #[.slice a0 f.nv c0, .slice a1 f.np c1, .slice a2 f.nb c2]
 obtain ⟨l0, l1, l2⟩ := Bl.out.c3
 simp at l0 l1 l2
 go_enter Tryz.func37, Tryz.ntmps37
 go_upto_region 1 with (fail)
 have hszw : w.heap.size ≤ (w.alloc (.cells #[.slice a0 f.nv c0, .slice a1 f.np c1, .slice a2 f.nb c2] 26)).heap.size := by show _ ≤ (Array.push _ _).size; simp [Array.size_push]
 clear l0 l1 l2
 generalize (w.alloc (.cells #[.slice a0 f.nv c0, .slice a1 f.np c1, .slice a2 f.nb c2] 26)) = W0 at *
 have Bl_W0 := Bl
 have TW0 := HK
 clear HK
 have HK := kept (Keeps.refl W0 [])
 obtain ⟨l0, l1, l2⟩ := Bl.out.c3
 simp at l0 l1 l2
 have HSW := kept hszw
 clear hszw
 go_upto_region 3 with (fail)
 have k3 : Keeps W0 (W0.alloc (.cells (bitsR (List.replicate f.nb false)) 4)) [] := (Keeps.refl _ []).alloc _
 have bb := Blk.new W0 4 (bitsR (List.replicate f.nb false))
 clear l0 l1 l2
 replace Bl := kept (Bl.out.keep k3 (by simp))
 replace HK := kept (HK.out.and_then k3)
 obtain ⟨l0, l1, l2⟩ := Bl.out.c3
 simp at l0 l1 l2
 clear k3
 have BB := kept bb
 clear bb hmk
 generalize (W0.alloc (.cells (bitsR (List.replicate f.nb false)) 4)) = W1 at *
 go_wp2
 go_loopg [9] (1 + f.nb) (fun g a wx => ∃ (b : Bool) (l : List Bool), a = .bool b ∧ Hid (FromI f l) ∧ (b = true → cntF l + 1 ≤ g) ∧ Hid (b = false → ∀ x, x < f.nb → FromC f l x) ∧ Blk wx W0.heap.size 4 (bitsR l) ∧ Keeps W0 wx [])
 case atStart => exact ⟨true, _, rfl, from_start f, fun _ => by rw [cntF_rep]; omega, fun e => (by cases e), BB.out, HK.out⟩
 case round =>
  obtain ⟨b, l, rfl, hI, hg, hcl, hB, hr⟩ := hrel
  have HI := kept hI.out
  have HCL := kept hcl.out
  clear hI hcl
  clear BB
  clear l0 l1 l2
  clear Bl HK
  have HK := kept hr
  have Bl := kept (Bl_W0.out.keep hr (by simp))
  clear hr
  obtain ⟨l0, l1, l2⟩ := Bl.out.c3
  simp at l0 l1 l2
  have BB := kept hB
  clear hB
  cases b
  ·go_wp2
   go_ret
   exact ⟨W0.heap.size, l, by rw [HI.out.len]; rfl, BB.out, ⟨HI.out.len, fun y hy => from_done HI.out hp (HCL.out (by first | rfl | trivial)) hy⟩, HSW.out, (TW0.out.and_then HK.out)⟩
  ·have HGH := kept (hg rfl)
   clear hg HCL
   go_wp2
   go_loopw [9, 19] (fun a' i' wx => ∃ (x : Nat) (g' : Bool) (l' : List Bool), x ≤ f.nb ∧ i' = .int .i64 x ∧ a' = .bool g' ∧ Hid (PassI f l l' g' x 0) ∧ Blk wx W0.heap.size 4 (bitsR l') ∧ Keeps W0 wx []) (fun _ i' _ => f.nb - (intOf i').toNat)
   case atStart => exact ⟨0, false, l, Nat.zero_le _, rfl, rfl, ⟨HI.out, fun _ => ⟨rfl, fun x' h => absurd h (Nat.not_lt_zero _), fun y' h => absurd h (Nat.not_lt_zero _)⟩, fun e => (by cases e)⟩, BB.out, HK.out⟩
   case round =>
    obtain ⟨x, g', l', hx, rfl, rfl, hPI, hB, hr⟩ := hrel
    have HPI := kept hPI.out
    clear hPI BB
    clear l0 l1 l2
    clear Bl HK
    have HK := kept hr
    have Bl := kept (Bl_W0.out.keep hr (by simp))
    clear hr
    obtain ⟨l0, l1, l2⟩ := Bl.out.c3
    simp at l0 l1 l2
    have BB := kept hB
    clear hB
    by_cases hlx : x < f.nb
    ·have hlxz : (x : Int) < (f.nb : Int) := by omega
     have hx1 : ((x : Int) == -1) = false := beq_eq_false_iff_ne.2 (show (x : Int) ≠ -1 by omega)
     have hx2 : ¬ (x : Int) = -1 := by omega
     have bx := bit_cell BB.out (k := x) (by rw [HPI.out.i.len]; exact hlx)
     by_cases hx0 : x = 0
     ·have hiz : ((x : Int) == 0) = isz x := rfl
      have hit : isz x = true := by unfold isz; rw [hx0]; rfl
      have HXR := kept (show x = 0 ∨ l'[x]! = true from .inl hx0)
      have HX0 := kept hx0
      clear hx0 bx
      go_wp2
      go_loopw [9, 38] (fun a' i' wx => ∃ (y : Nat) (g2 : Bool) (m2 : List Bool), y ≤ f.nb ∧ i' = .int .i64 y ∧ a' = .bool g2 ∧ Hid (PassI f l m2 g2 x y) ∧ Hid (x = 0 ∨ m2[x]! = true) ∧ Blk wx W0.heap.size 4 (bitsR m2) ∧ Keeps W0 wx []) (fun _ i' _ => f.nb - (intOf i').toNat)
      case atStart => exact ⟨0, g', l', Nat.zero_le _, rfl, rfl, HPI.out, HXR.out, BB.out, HK.out⟩
      case round =>
       obtain ⟨y, g2, m2, hy, rfl, rfl, hPJ, hXJ, hB, hr⟩ := hrel
       have HPJ := kept hPJ.out
       have HXJ := kept hXJ.out
       clear hPJ hXJ BB
       try clear bx
       clear l0 l1 l2
       clear Bl HK
       have HK := kept hr
       have Bl := kept (Bl_W0.out.keep hr (by simp))
       clear hr
       obtain ⟨l0, l1, l2⟩ := Bl.out.c3
       simp at l0 l1 l2
       have BB := kept hB
       clear hB
       by_cases hly : y < f.nb
       ·have hlyz : (y : Int) < (f.nb : Int) := by omega
        have hy1 : ((y : Int) == -1) = false := beq_eq_false_iff_ne.2 (show (y : Int) ≠ -1 by omega)
        have hy2 : ¬ (y : Int) = -1 := by omega
        have by0 := bit_cell BB.out (k := y) (by rw [HPJ.out.i.len]; exact hly)
        have by1 := BB.out.frozen y
        have HBY := kept (show m2[y]! = m2[y]! from rfl)
        generalize hby : m2[y]! = bq at by0 HBY
        have HBQ := kept hby
        clear hby HBY
        cases bq
        ·have CLx := kept (CL.out x hlx (y : Int))
         have HLD := kept (show leadsM f.blocks.2[x]! (y : Int) = leadsM f.blocks.2[x]! (y : Int) from rfl)
         generalize hld : leadsM f.blocks.2[x]! (y : Int) = ld at CLx HLD
         have HLE := kept hld
         clear hld HLD
         replace CLx := kept (by have h9 := CLx.out; rw [show (x : Int) = 0 by have h8 := HX0.out; omega] at h9; exact h9)
         cases ld
         ·go_wp2_with (first | (go_at_call 39; refine (CLx.out _ (HF.out.keep (TW0.out.and_then HK.out))).mono ?_; rintro e w3 ⟨rfl, k3⟩; have BBx := kept (BB.out.keep k3 (by simp)); have by0x := k3.cellOf by0; replace BB := BBx; clear BBx by0 by1; have by0 := by0x; clear by0x; have by1 := BB.out.frozen y; clear l0 l1 l2; replace Bl := kept (Bl.out.keep k3 (by simp)); replace HK := kept (HK.out.and_then k3); obtain ⟨l0, l1, l2⟩ := Bl.out.c3; simp at l0 l1 l2; clear k3))
          go_roundw
          case rel => exact ⟨y + 1, g2, m2, by omega, by go_num, by first | rfl | trivial, pass_same HPJ.out (.inr HLE.out), HXJ.out, BB.out, HK.out⟩
          case measure => simp [intOf]; omega
         ·go_wp2_with (first | (go_at_call 39; refine (CLx.out _ (HF.out.keep (TW0.out.and_then HK.out))).mono ?_; rintro e w3 ⟨rfl, k3⟩; have BBx := kept (BB.out.keep k3 (by simp)); have by0x := k3.cellOf by0; replace BB := BBx; clear BBx by0 by1; have by0 := by0x; clear by0x; have by1 := BB.out.frozen y; clear l0 l1 l2; replace Bl := kept (Bl.out.keep k3 (by simp)); replace HK := kept (HK.out.and_then k3); obtain ⟨l0, l1, l2⟩ := Bl.out.c3; simp at l0 l1 l2; clear k3))
          go_roundw
          case rel => exact ⟨y + 1, true, m2.set y true, by omega, by go_num, by first | rfl | trivial, pass_put HPJ.out hlx HXJ.out hly HLE.out HBQ.out, keep_bit HPJ.out.i hly HXJ.out, by rw [← bitsR_set]; exact BB.out.set_ y _, HK.out.setCell (.inr (Nat.le_refl _)) _⟩
          case measure => simp [intOf]; omega
        ·go_wp2
         go_roundw
         case rel => exact ⟨y + 1, g2, m2, by omega, by go_num, by first | rfl | trivial, pass_same HPJ.out (.inl HBQ.out), HXJ.out, BB.out, HK.out⟩
         case measure => simp [intOf]; omega
       ·have hlyz : ¬ (y : Int) < (f.nb : Int) := by omega
        obtain rfl : y = f.nb := by omega
        go_wp2
        go_roundw
        case rel => exact ⟨x + 1, g2, m2, by omega, by go_num, by first | rfl | trivial, pass_next HPJ.out, BB.out, HK.out⟩
        case measure => simp [intOf]; omega
     ·have hx0b : ((x : Int) == 0) = false := beq_eq_false_iff_ne.2 (show (x : Int) ≠ 0 by omega)
      have hx0z : ¬ (x : Int) = 0 := by omega
      generalize hbx : l'[x]! = bx0 at bx
      have HBX := kept hbx
      clear hbx
      cases bx0
      ·go_wp2
       go_roundw
       case rel => exact ⟨x + 1, g', l', by omega, by go_num, by first | rfl | trivial, pass_skip HPI.out (by have h9 := HBX.out; rintro (h | h); exact hx0 h; rw [h9] at h; cases h), BB.out, HK.out⟩
       case measure => simp [intOf]; omega
      ·have HXR := kept (show x = 0 ∨ l'[x]! = true from .inr HBX.out)
       go_wp2
       go_loopw [9, 38] (fun a' i' wx => ∃ (y : Nat) (g2 : Bool) (m2 : List Bool), y ≤ f.nb ∧ i' = .int .i64 y ∧ a' = .bool g2 ∧ Hid (PassI f l m2 g2 x y) ∧ Hid (x = 0 ∨ m2[x]! = true) ∧ Blk wx W0.heap.size 4 (bitsR m2) ∧ Keeps W0 wx []) (fun _ i' _ => f.nb - (intOf i').toNat)
       case atStart => exact ⟨0, g', l', Nat.zero_le _, rfl, rfl, HPI.out, HXR.out, BB.out, HK.out⟩
       case round =>
        obtain ⟨y, g2, m2, hy, rfl, rfl, hPJ, hXJ, hB, hr⟩ := hrel
        have HPJ := kept hPJ.out
        have HXJ := kept hXJ.out
        clear hPJ hXJ BB
        try clear bx
        clear l0 l1 l2
        clear Bl HK
        have HK := kept hr
        have Bl := kept (Bl_W0.out.keep hr (by simp))
        clear hr
        obtain ⟨l0, l1, l2⟩ := Bl.out.c3
        simp at l0 l1 l2
        have BB := kept hB
        clear hB
        by_cases hly : y < f.nb
        ·have hlyz : (y : Int) < (f.nb : Int) := by omega
         have hy1 : ((y : Int) == -1) = false := beq_eq_false_iff_ne.2 (show (y : Int) ≠ -1 by omega)
         have hy2 : ¬ (y : Int) = -1 := by omega
         have by0 := bit_cell BB.out (k := y) (by rw [HPJ.out.i.len]; exact hly)
         have by1 := BB.out.frozen y
         have HBY := kept (show m2[y]! = m2[y]! from rfl)
         generalize hby : m2[y]! = bq at by0 HBY
         have HBQ := kept hby
         clear hby HBY
         cases bq
         ·have CLx := kept (CL.out x hlx (y : Int))
          have HLD := kept (show leadsM f.blocks.2[x]! (y : Int) = leadsM f.blocks.2[x]! (y : Int) from rfl)
          generalize hld : leadsM f.blocks.2[x]! (y : Int) = ld at CLx HLD
          have HLE := kept hld
          clear hld HLD
          cases ld
          ·go_wp2_with (first | (go_at_call 39; refine (CLx.out _ (HF.out.keep (TW0.out.and_then HK.out))).mono ?_; rintro e w3 ⟨rfl, k3⟩; have BBx := kept (BB.out.keep k3 (by simp)); have by0x := k3.cellOf by0; replace BB := BBx; clear BBx by0 by1; have by0 := by0x; clear by0x; have by1 := BB.out.frozen y; clear l0 l1 l2; replace Bl := kept (Bl.out.keep k3 (by simp)); replace HK := kept (HK.out.and_then k3); obtain ⟨l0, l1, l2⟩ := Bl.out.c3; simp at l0 l1 l2; clear k3))
           go_roundw
           case rel => exact ⟨y + 1, g2, m2, by omega, by go_num, by first | rfl | trivial, pass_same HPJ.out (.inr HLE.out), HXJ.out, BB.out, HK.out⟩
           case measure => simp [intOf]; omega
          ·go_wp2_with (first | (go_at_call 39; refine (CLx.out _ (HF.out.keep (TW0.out.and_then HK.out))).mono ?_; rintro e w3 ⟨rfl, k3⟩; have BBx := kept (BB.out.keep k3 (by simp)); have by0x := k3.cellOf by0; replace BB := BBx; clear BBx by0 by1; have by0 := by0x; clear by0x; have by1 := BB.out.frozen y; clear l0 l1 l2; replace Bl := kept (Bl.out.keep k3 (by simp)); replace HK := kept (HK.out.and_then k3); obtain ⟨l0, l1, l2⟩ := Bl.out.c3; simp at l0 l1 l2; clear k3))
           go_roundw
           case rel => exact ⟨y + 1, true, m2.set y true, by omega, by go_num, by first | rfl | trivial, pass_put HPJ.out hlx HXJ.out hly HLE.out HBQ.out, keep_bit HPJ.out.i hly HXJ.out, by rw [← bitsR_set]; exact BB.out.set_ y _, HK.out.setCell (.inr (Nat.le_refl _)) _⟩
           case measure => simp [intOf]; omega
         ·go_wp2
          go_roundw
          case rel => exact ⟨y + 1, g2, m2, by omega, by go_num, by first | rfl | trivial, pass_same HPJ.out (.inl HBQ.out), HXJ.out, BB.out, HK.out⟩
          case measure => simp [intOf]; omega
        ·have hlyz : ¬ (y : Int) < (f.nb : Int) := by omega
         obtain rfl : y = f.nb := by omega
         go_wp2
         go_roundw
         case rel => exact ⟨x + 1, g2, m2, by omega, by go_num, by first | rfl | trivial, pass_next HPJ.out, BB.out, HK.out⟩
         case measure => simp [intOf]; omega
    ·have hlxz : ¬ (x : Int) < (f.nb : Int) := by omega
     obtain rfl : x = f.nb := by omega
     go_wp2
     obtain ⟨gq, rfl⟩ : ∃ gq, gk = gq + 1 := ⟨gk - 1, by have h9 := HGH.out; omega⟩
     go_roundg gq
     case measure => omega
     case rel => exact ⟨g', l', rfl, HPI.out.i, fun e => by have h9 := HGH.out; have h8 := HPI.out.yes e; omega, fun e => by have h7 := HPI.out.no e; exact h7.2.1, BB.out, HK.out⟩
theorem reach1 {f : FuncM} {l : List Bool} (hp : 0 < f.nb) (h : ReachB f l) : ReachOK f (l.set 0 true) := by
 refine ⟨by rw [List.length_set]; exact h.1, fun b hb => ?_⟩
 rw [lb_set (by rw [h.1]; exact hp)]
 by_cases e : b = 0
 ·subst e; rw [if_pos rfl]; exact ⟨fun _ => .start, fun _ => rfl⟩
 ·rw [if_neg e, h.2 b hb]
  constructor
  ·exact fun h1 => rway_to h1
  ·intro h1
   cases h1 with
   | start => exact absurd rfl e
   | @step a c ha hs =>
    refine ⟨a, ?_, ha, hs⟩
    cases ha with
    | start => exact hp
    | step _ h2 => exact (succF_mem.1 h2).1

set_option maxRecDepth 100000 in
set_option maxHeartbeats 200000000 in
theorem reached11_any (f : FuncM) (w : World) (hf : FuncAt w f) (hp : 0 < f.nb) (hn : f.nb ≤ 1000) : Calls Tryz.prog 11 #[f.val, .int .i64 (-1)] w fun e w' => (∃ g, e = .returned (.slice (some ⟨g, 0, none⟩) f.nb f.nb) ∧ ∃ th, Blk w' g 4 (bitsR th) ∧ ReachOK f th) ∧ Keeps w w' [] := by
 have CF := kept (fun W (h2 : FuncAt W f) => from37_any f W h2 hp hn)
 obtain ⟨a0, c0, a1, c1, a2, c2, e0, e1, e2, hval, h1, HF, HC0, HC1, HC2, HNV, HNP, HNB⟩ := fopen hf
 rw [hval] at CF ⊢
 clear hval h1 e0 e1 e2 hf HC0 HC1 HC2
 obtain ⟨HK, Bl⟩ := fbox w 26 #[.slice a0 f.nv c0, .slice a1 f.np c1, .slice a2 f.nb c2]
 obtain ⟨l0, l1, l2⟩ := Bl.out.c3
 simp at l0 l1 l2
 go_enter Tryz.func11, Tryz.ntmps11
 go_upto_region 2 with (first | (go_at_call 37; refine (CF.out _ (HF.out.keep HK.out)).mono ?_; rintro e w3 ⟨g, l, rfl, hB, hR, hg, k3⟩; have HB := kept hB; have HR := kept hR; have HG := kept (show w.heap.size ≤ g from Nat.le_trans HK.out.size hg); clear hB hR hg; clear l0 l1 l2; replace Bl := kept (Bl.out.keep k3 (by simp)); replace HK := kept (HK.out.and_then k3); obtain ⟨l0, l1, l2⟩ := Bl.out.c3; simp at l0 l1 l2; clear k3))
 have g0 : w3.cell? ⟨g, 0, none⟩ = some (.bool l[0]!) := by rw [HB.out.cell 0, bitsR_at (by rw [HR.out.1]; exact hp)]
 have g1 := HB.out.frozen 0
 have hl := HR.out.1
 rw [hl]
 go_wp2
 go_ret
 exact ⟨⟨g, rfl, _, by rw [← bitsR_set]; exact HB.out.set_ 0 _, reach1 hp HR.out⟩, HK.out.setCell (.inr HG.out) _⟩

def aheadB (f : FuncM) (x : InstM) (l : List InstM) : Bool := l.any fun y => isB y x.op x.args.2
theorem ahead_snoc (f : FuncM) (x : InstM) (l : List InstM) (y : InstM) : aheadB f x (l ++ [y]) = (aheadB f x l || isB y x.op x.args.2) := by unfold aheadB; rw [List.any_append]; simp
theorem ahead_in {f : FuncM} {x y : InstM} {l r : List InstM} (h : isB y x.op x.args.2 = true) : aheadB f x (l ++ y :: r) = true := by unfold aheadB; rw [List.any_append, List.any_cons, h]; simp
theorem preI_at {f : FuncM} {b pl i j : Nat} (hi : i ≤ b) (hb : b < f.nb) (hj : j < f.blocks.2[i]!.insts.2.length) (h : i = b → j < pl) : f.blocks.2[i]!.insts.2[j]! ∈ preI f b pl := by
 rcases Nat.lt_or_ge i b with h1 | h1
 ·refine List.mem_append_left _ (List.mem_flatMap.2 ⟨f.blocks.2[i]!, ?_, bang_mem hj⟩)
  have hi2 : i < f.blocks.2.length := by have h9 : f.blocks.2.length = f.nb := rfl; omega
  rw [getElem!_pos _ i hi2]
  exact List.mem_take_iff_getElem.2 ⟨i, by omega, rfl⟩
 ·obtain rfl : i = b := by omega
  refine List.mem_append_right _ ?_
  rw [getElem!_pos _ j hj]
  exact List.mem_take_iff_getElem.2 ⟨j, by have := h rfl; omega, rfl⟩
theorem ahead_yes {f : FuncM} {x y : InstM} {l : List InstM} (hm : y ∈ l) (h : isB y x.op x.args.2 = true) : aheadB f x l = true := List.any_eq_true.2 ⟨y, hm, h⟩
theorem ahead_no {f : FuncM} {x : InstM} {b pl : Nat} (h : ∀ a, a ≤ b → ∀ j, j < f.blocks.2[a]!.insts.2.length → (a = b → j < pl) → isB f.blocks.2[a]!.insts.2[j]! x.op x.args.2 = false) : aheadB f x (preI f b pl) = false := by
 unfold aheadB
 rw [List.any_eq_false]
 intro y hy
 rw [Bool.not_eq_true]
 rcases List.mem_append.1 hy with h1 | h1
 ·obtain ⟨z, hz, hy⟩ := List.mem_flatMap.1 h1
  obtain ⟨a, ha, rfl⟩ := List.mem_take_iff_getElem.1 hz
  obtain ⟨j, hj, rfl⟩ := List.mem_iff_getElem.1 hy
  have h2 := h a (by omega) j (by rw [getElem!_pos _ a (by omega)]; exact hj) (fun e => by omega)
  rw [getElem!_pos f.blocks.2 a (by omega), getElem!_pos _ j hj] at h2
  exact h2
 ·obtain ⟨j, hj, rfl⟩ := List.mem_take_iff_getElem.1 h1
  have hj2 : j < f.blocks.2[b]!.insts.2.length := by omega
  have h2 := h b (Nat.le_refl _) j hj2 (fun _ => by omega)
  rw [getElem!_pos _ j hj2] at h2
  exact h2

set_option maxRecDepth 100000 in
set_option maxHeartbeats 200000000 in
theorem earlier13_any (f : FuncM) (x : InstM) (b pl : Nat) (w : World) (hf : FuncAt w f) (hx : InstAt w x) (hb : b < f.nb) (hn : f.nb ≤ 1000) (hpl : pl ≤ 100000) (hbd : ∀ b, b < f.nb → f.blocks.2[b]!.insts.2.length ≤ 100000) : Calls Tryz.prog 13 #[f.val, .agg #[.int .i64 x.op, .int .i64 x.dst, x.args.1, .int .i64 x.num], .int .i64 (b : Nat), .int .i64 (pl : Nat)] w fun e w' => e = .returned (.bool (aheadB f x (preI f b pl))) ∧ Keeps w w' [] := by
 obtain ⟨xa, xc, xe, -, -, -⟩ := Row.open_ (M := Int) (cells := intCells) (show Row w 1 x.args.1 (x.args.2.map intCells) from hx)
 have HX := kept (show IntsAt w x.args from hx)
 have CI := kept (fun (y : InstM) W (h1 : InstAt W y) (h2 : IntsAt W x.args) => is15_any y x.op x.args W h1 h2)
 simp only [xe] at CI
 rw [xe]
 have HBD := kept hbd
 have AN := kept (fun h => ahead_no (f := f) (x := x) (b := b) (pl := pl) h)
 have AY := kept (fun a (ha : a ≤ b) j (hj : j < f.blocks.2[a]!.insts.2.length) (h : a = b → j < pl) hi => ahead_yes (f := f) (x := x) (preI_at ha hb hj h) hi)
 generalize aheadB f x (preI f b pl) = R at *
 obtain ⟨a0, c0, a1, c1, a2, c2, e0, e1, e2, hval, h1, HF, HC0, HC1, HC2, HNV, HNP, HNB⟩ := fopen hf
 rw [hval]
 clear hval h1 e0 e1 e2 hf HC0 HC1 hx xe hbd
 have hk0 : Keeps w (w.alloc (.cells #[.slice a0 f.nv c0, .slice a1 f.np c1, .slice a2 f.nb c2] 26)) [] := (Keeps.refl _ []).alloc _
 have bb0 := Blk.new w 26 #[.slice a0 f.nv c0, .slice a1 f.np c1, .slice a2 f.nb c2]
 have hk1 : Keeps (w.alloc (.cells #[.slice a0 f.nv c0, .slice a1 f.np c1, .slice a2 f.nb c2] 26)) ((w.alloc (.cells #[.slice a0 f.nv c0, .slice a1 f.np c1, .slice a2 f.nb c2] 26)).alloc (.cells #[.int .i64 x.op, .int .i64 x.dst, .slice xa x.args.2.length xc, .int .i64 x.num] 43)) [] := (Keeps.refl _ []).alloc _
 have bb1 := Blk.new (w.alloc (.cells #[.slice a0 f.nv c0, .slice a1 f.np c1, .slice a2 f.nb c2] 26)) 43 #[.int .i64 x.op, .int .i64 x.dst, .slice xa x.args.2.length xc, .int .i64 x.num]
 rw [show (w.alloc (.cells #[.slice a0 f.nv c0, .slice a1 f.np c1, .slice a2 f.nb c2] 26)).heap.size = w.heap.size + 1 by show (Array.push _ _).size = _; simp [Array.size_push]] at bb1
 have Bl := kept (bb0.keep hk1 (by simp))
 have Bm := kept bb1
 have HK := kept (hk0.and_then hk1)
 obtain ⟨l0, l1, l2⟩ := Bl.out.c3
 obtain ⟨m0, m1, m2, m3⟩ := Bm.out.c4
 simp at l0 l1 l2 m0 m1 m2 m3
 clear hk0 hk1 bb0 bb1
 go_enter Tryz.func13, Tryz.ntmps13
 go_upto_region 1 with (fail)
 clear l0 l1 l2 m0 m1 m2 m3
 generalize ((w.alloc (.cells #[.slice a0 f.nv c0, .slice a1 f.np c1, .slice a2 f.nb c2] 26)).alloc (.cells #[.int .i64 x.op, .int .i64 x.dst, .slice xa x.args.2.length xc, .int .i64 x.num] 43)) = W0 at *
 have Bl_W0 := Bl
 have Bm_W0 := Bm
 have TW0 := HK
 clear HK
 have HK := kept (Keeps.refl W0 [])
 obtain ⟨l0, l1, l2⟩ := Bl.out.c3
 obtain ⟨m0, m1, m2, m3⟩ := Bm.out.c4
 simp at l0 l1 l2 m0 m1 m2 m3
 go_wp2
 go_loopw [14] (fun i' wx => ∃ a : Nat, a ≤ b + 1 ∧ i' = .int .i64 a ∧ Hid (∀ a', a' < a → ∀ j, j < f.blocks.2[a']!.insts.2.length → (a' = b → j < pl) → isB f.blocks.2[a']!.insts.2[j]! x.op x.args.2 = false) ∧ Keeps W0 wx []) (fun i' _ => b + 1 - (intOf i').toNat)
 case atStart => exact ⟨0, Nat.zero_le _, rfl, (show Hid _ from fun a' h => absurd h (Nat.not_lt_zero _)), HK.out⟩
 case round =>
  obtain ⟨a, ha, rfl, hno, hr⟩ := hrel
  have HNO := kept hno.out
  clear hno
  clear l0 l1 l2 m0 m1 m2 m3
  clear Bl Bm HK
  have HK := kept hr
  have Bl := kept (Bl_W0.out.keep hr (by simp))
  have Bm := kept (Bm_W0.out.keep hr (by simp))
  clear hr
  obtain ⟨l0, l1, l2⟩ := Bl.out.c3
  obtain ⟨m0, m1, m2, m3⟩ := Bm.out.c4
  simp at l0 l1 l2 m0 m1 m2 m3
  by_cases hla : a < b + 1
  ·have hlaz : (a : Int) < (b : Int) + 1 := by omega
   have han : a < f.nb := by omega
   have hanz : (a : Int) < (f.nb : Int) := by omega
   obtain ⟨yb, yo, e8, hyb, hbc⟩ := HC2.out a (by rw [HNB.out]; exact han)
   obtain rfl := e8
   have HBA := kept (HF.out.block _ (bang_mem (l := f.blocks.2) (k := a) han))
   obtain ⟨qa, qc, e7, -, -, hic⟩ := HBA.out.insts.open_
   have HIC := kept hic
   have y2 := (TW0.out.and_then HK.out).cellOf (hbc 2 _ rfl)
   rw [e7] at y2
   clear hbc HC2 e7 hic
   have hil := HBD.out a han
   have AYa := kept (AY.out a (by omega))
   clear AY
   have HNOa := kept (fun (hall : ∀ j, j < f.blocks.2[a]!.insts.2.length → (a = b → j < pl) → isB f.blocks.2[a]!.insts.2[j]! x.op x.args.2 = false) => show ∀ a', a' < a + 1 → ∀ j, j < f.blocks.2[a']!.insts.2.length → (a' = b → j < pl) → isB f.blocks.2[a']!.insts.2[j]! x.op x.args.2 = false from fun a' ha' j hj h => by rcases Nat.lt_succ_iff_lt_or_eq.1 ha' with h1 | h1; exact HNO.out a' h1 j hj h; (subst h1; exact hall j hj h))
   clear HNO
   generalize f.blocks.2[a]! = y at *
   generalize hyl : y.insts.2.length = yil at *
   have HYL := kept hyl
   clear hyl
   go_wp2
   clear y2
   go_loopw [24] (fun i' wx => ∃ j : Nat, j ≤ yil ∧ i' = .int .i64 j ∧ Hid (∀ j', j' < j → (a = b → j' < pl) → isB y.insts.2[j']! x.op x.args.2 = false) ∧ Keeps W0 wx []) (fun i' _ => yil - (intOf i').toNat)
   case atStart => exact ⟨0, Nat.zero_le _, rfl, (show Hid _ from fun j' h => absurd h (Nat.not_lt_zero _)), HK.out⟩
   case round =>
    obtain ⟨j, hj, rfl, hno, hr⟩ := hrel
    have HNJ := kept hno.out
    clear hno
    clear l0 l1 l2 m0 m1 m2 m3
    clear Bl Bm HK
    have HK := kept hr
    have Bl := kept (Bl_W0.out.keep hr (by simp))
    have Bm := kept (Bm_W0.out.keep hr (by simp))
    clear hr
    obtain ⟨l0, l1, l2⟩ := Bl.out.c3
    obtain ⟨m0, m1, m2, m3⟩ := Bm.out.c4
    simp at l0 l1 l2 m0 m1 m2 m3
    by_cases hlj : j < yil
    ·have hljz : (j : Int) < (yil : Int) := by omega
     obtain ⟨ib, io, e8, hib, hcell⟩ := HIC.out j (by first | exact hlj | (rw [HYL.out]; exact hlj))
     obtain rfl := e8
     have hxa := HBA.out.inst _ (bang_mem (l := y.insts.2) (k := j) (by first | exact hlj | (rw [HYL.out]; exact hlj)))
     have AYj := kept (AYa.out j hlj)
     have n0 := (TW0.out.and_then HK.out).cellOf (hcell 0 _ rfl)
     have n1 := (TW0.out.and_then HK.out).cellOf (hcell 1 _ rfl)
     have n2 := (TW0.out.and_then HK.out).cellOf (hcell 2 _ rfl)
     have n3 := (TW0.out.and_then HK.out).cellOf (hcell 3 _ rfl)
     simp only [Nat.add_zero] at n0
     obtain ⟨ua, va1, e1, -, -, -⟩ := IntsAt.open_ hxa
     rw [e1] at n2
     have HYA := kept (show IntsAt w y.insts.2[j]!.args from hxa)
     have CY := kept (fun W h => CI.out y.insts.2[j]! W h)
     rw [e1] at CY
     clear hcell hxa e1 HIC
     generalize hz : y.insts.2[j]! = z at *
     have HZ := kept hz
     clear hz
     generalize hzl : z.args.2.length = zl at *
     clear hzl
     go_upto_region 7 with (fail)
     clear n0 n1 n2 n3
     clear l0 l1 l2 m0 m1 m2 m3
     have bmx := Blk.new wr 43 #[.int .i64 z.op, .int .i64 z.dst, .slice ua zl va1, .int .i64 z.num]
     have k3 : Keeps wr (wr.alloc (.cells #[.int .i64 z.op, .int .i64 z.dst, .slice ua zl va1, .int .i64 z.num] 43)) [] := (Keeps.refl wr []).alloc _
     replace Bl := kept (Bl.out.keep k3 (by simp))
     replace Bm := kept (Bm.out.keep k3 (by simp))
     replace HK := kept (HK.out.and_then k3)
     have Bz := kept bmx
     clear k3 bmx
     obtain ⟨l0, l1, l2⟩ := Bl.out.c3
     obtain ⟨m0, m1, m2, m3⟩ := Bm.out.c4
     obtain ⟨z0, z1, z2, z3⟩ := Bz.out.c4
     simp at l0 l1 l2 m0 m1 m2 m3 z0 z1 z2 z3
     generalize hWX : (wr.alloc (.cells #[.int .i64 z.op, .int .i64 z.dst, .slice ua zl va1, .int .i64 z.num] 43)) = W5 at *
     clear hWX
     generalize wr.heap.size = bz at *
     clear l0 l1 l2 m0 m1 m2 m3 z0 z1 z2 z3
     obtain ⟨l0, l1, l2⟩ := Bl.out.c3
     obtain ⟨m0, m1, m2, m3⟩ := Bm.out.c4
     obtain ⟨z0, z1, z2, z3⟩ := Bz.out.c4
     simp at l0 l1 l2 m0 m1 m2 m3 z0 z1 z2 z3
     by_cases hab : a = b ∧ pl ≤ j
     ·have hab1 : ((a : Int) == (b : Int)) = true := by simp [hab.1]
      have hab2 : (pl : Int) ≤ (j : Int) := by omega
      have HAB := kept hab
      go_wp2
      go_roundw
      case rel => exact ⟨a + 1, by omega, by go_num, HNOa.out (fun j' hj' h => HNJ.out j' (by have h9 := h HAB.out.1; have h8 := HAB.out.2; omega) h), HK.out⟩
      case measure => simp [intOf]; omega
     ·have hcond : (((a : Int) == (b : Int)) = false) ∨ (((a : Int) == (b : Int)) = true ∧ ¬ (pl : Int) ≤ (j : Int)) := by (rcases Nat.decEq a b with e | e; exact .inl (beq_eq_false_iff_ne.2 (show (a : Int) ≠ (b : Int) by omega)); exact .inr ⟨by simp [e], by omega⟩)
      have HJP := kept (show a = b → j < pl from fun e => by omega)
      generalize hib2 : isB z x.op x.args.2 = ib2 at *
      have HIB := kept hib2
      clear hib2
      rcases hcond with hc1 | ⟨hc1, hc2⟩
      ·cases ib2
       ·go_wp2_with (first | (go_at_call 15; refine (CY.out _ (show InstAt _ z from Row.keep (show IntsAt w z.args from HYA.out) (TW0.out.and_then HK.out)) (Row.keep HX.out (TW0.out.and_then HK.out))).mono ?_; rintro e w3 ⟨rfl, k3⟩; clear l0 l1 l2 m0 m1 m2 m3 z0 z1 z2 z3; replace Bl := kept (Bl.out.keep k3 (by simp)); replace Bm := kept (Bm.out.keep k3 (by simp)); replace Bz := kept (Bz.out.keep k3 (by simp)); replace HK := kept (HK.out.and_then k3); obtain ⟨l0, l1, l2⟩ := Bl.out.c3; obtain ⟨m0, m1, m2, m3⟩ := Bm.out.c4; obtain ⟨z0, z1, z2, z3⟩ := Bz.out.c4; simp at l0 l1 l2 m0 m1 m2 m3 z0 z1 z2 z3; clear k3))
        go_roundw
        case rel => exact ⟨j + 1, by omega, by go_num, (show Hid _ from fun j' hj' h => by rcases Nat.lt_succ_iff_lt_or_eq.1 hj' with h1 | h1; exact HNJ.out j' h1 h; (rw [h1, HZ.out]; exact HIB.out)), HK.out⟩
        case measure => simp [intOf]; omega
       ·go_wp2_with (first | (go_at_call 15; refine (CY.out _ (show InstAt _ z from Row.keep (show IntsAt w z.args from HYA.out) (TW0.out.and_then HK.out)) (Row.keep HX.out (TW0.out.and_then HK.out))).mono ?_; rintro e w3 ⟨rfl, k3⟩; clear l0 l1 l2 m0 m1 m2 m3 z0 z1 z2 z3; replace Bl := kept (Bl.out.keep k3 (by simp)); replace Bm := kept (Bm.out.keep k3 (by simp)); replace Bz := kept (Bz.out.keep k3 (by simp)); replace HK := kept (HK.out.and_then k3); obtain ⟨l0, l1, l2⟩ := Bl.out.c3; obtain ⟨m0, m1, m2, m3⟩ := Bm.out.c4; obtain ⟨z0, z1, z2, z3⟩ := Bz.out.c4; simp at l0 l1 l2 m0 m1 m2 m3 z0 z1 z2 z3; clear k3))
        go_ret
        exact ⟨ret_bool (AYj.out HJP.out (by first | exact HIB.out | rfl | trivial)).symm, (TW0.out.and_then HK.out)⟩
      ·cases ib2
       ·go_wp2_with (first | (go_at_call 15; refine (CY.out _ (show InstAt _ z from Row.keep (show IntsAt w z.args from HYA.out) (TW0.out.and_then HK.out)) (Row.keep HX.out (TW0.out.and_then HK.out))).mono ?_; rintro e w3 ⟨rfl, k3⟩; clear l0 l1 l2 m0 m1 m2 m3 z0 z1 z2 z3; replace Bl := kept (Bl.out.keep k3 (by simp)); replace Bm := kept (Bm.out.keep k3 (by simp)); replace Bz := kept (Bz.out.keep k3 (by simp)); replace HK := kept (HK.out.and_then k3); obtain ⟨l0, l1, l2⟩ := Bl.out.c3; obtain ⟨m0, m1, m2, m3⟩ := Bm.out.c4; obtain ⟨z0, z1, z2, z3⟩ := Bz.out.c4; simp at l0 l1 l2 m0 m1 m2 m3 z0 z1 z2 z3; clear k3))
        go_roundw
        case rel => exact ⟨j + 1, by omega, by go_num, (show Hid _ from fun j' hj' h => by rcases Nat.lt_succ_iff_lt_or_eq.1 hj' with h1 | h1; exact HNJ.out j' h1 h; (rw [h1, HZ.out]; exact HIB.out)), HK.out⟩
        case measure => simp [intOf]; omega
       ·go_wp2_with (first | (go_at_call 15; refine (CY.out _ (show InstAt _ z from Row.keep (show IntsAt w z.args from HYA.out) (TW0.out.and_then HK.out)) (Row.keep HX.out (TW0.out.and_then HK.out))).mono ?_; rintro e w3 ⟨rfl, k3⟩; clear l0 l1 l2 m0 m1 m2 m3 z0 z1 z2 z3; replace Bl := kept (Bl.out.keep k3 (by simp)); replace Bm := kept (Bm.out.keep k3 (by simp)); replace Bz := kept (Bz.out.keep k3 (by simp)); replace HK := kept (HK.out.and_then k3); obtain ⟨l0, l1, l2⟩ := Bl.out.c3; obtain ⟨m0, m1, m2, m3⟩ := Bm.out.c4; obtain ⟨z0, z1, z2, z3⟩ := Bz.out.c4; simp at l0 l1 l2 m0 m1 m2 m3 z0 z1 z2 z3; clear k3))
        go_ret
        exact ⟨ret_bool (AYj.out HJP.out (by first | exact HIB.out | rfl | trivial)).symm, (TW0.out.and_then HK.out)⟩
    ·have hljz : ¬ (j : Int) < (yil : Int) := by omega
     obtain rfl : j = yil := by omega
     go_wp2
     go_roundw
     case rel => exact ⟨a + 1, by omega, by go_num, HNOa.out (fun j' hj' h => HNJ.out j' hj' h), HK.out⟩
     case measure => simp [intOf]; omega
  ·have hlaz : ¬ (a : Int) < (b : Int) + 1 := by omega
   obtain rfl : a = b + 1 := by omega
   go_wp2
   go_ret
   exact ⟨ret_bool (AN.out (fun a ha j hj h => HNO.out a (by omega) j hj h)).symm, (TW0.out.and_then HK.out)⟩
section
variable {f : FuncM} {b j : Nat}
end
section
variable (g0 g1 g2 g3 g4 g5 g6 g7 : Nat)
end

end Go.Proofs.YtjllbchfojonhaaGreatDoor
