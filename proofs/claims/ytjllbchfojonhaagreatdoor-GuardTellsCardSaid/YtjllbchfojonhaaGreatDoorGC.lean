/- The document's guard: through a block; contract. -/
import Derived.Test.YtjllbchfojonhaaGreatDoorGB
import Derived.Deep.CutBlock
import Derived.Deep.Cut
namespace Go.Proofs.YtjllbchfojonhaaGreatDoor
open Go.RowKit
set_option linter.unusedVariables false
set_option linter.unusedSimpArgs false

theorem fold_take {α β : Type} [Inhabited α] (g : β → α → β) (b : β) (l : List α) (j : Nat) (hj : j < l.length) : (l.take (j + 1)).foldl g b = g ((l.take j).foldl g b) l[j]! := by
  rw [List.take_succ_eq_append_getElem hj, getElem!_pos l j hj, List.foldl_append]; rfl
def phiG (l : List Int) (was : Bool) (p : PhiM) : Bool := if l.contains p.dst = true then false else was
def instG (op : Int) (l : List Int) (was : Bool) (x : InstM) : Bool := if (decide (0 ≤ x.dst) && l.contains x.dst) = true then false else (isB x op l || was)
def throughM (y : BlockM) (op : Int) (l : List Int) (pl : Nat) (was : Bool) : Bool := (y.insts.2.take pl).foldl (instG op l) (y.phis.2.foldl (phiG l) was)

set_option maxRecDepth 100000 in
set_option maxHeartbeats 200000000 in
theorem through38_any (y : BlockM) (op : Int) (q : IntsM) (pl : Nat) (was : Bool) (w : World) (hy : BlockAt w y) (hq : IntsAt w q) (hpl : pl ≤ y.insts.2.length) (hb : y.phis.2.length ≤ 100000 ∧ y.insts.2.length ≤ 100000) :
    Calls Tryz.prog 38 #[.agg y.cells.toArray, .int .i64 op, q.1, .int .i64 (pl : Nat), .bool was] w fun e w' => e = .returned (.bool (throughM y op q.2 pl was)) ∧ Keeps w w' [] := by
  obtain ⟨pa, pc, pe, -, -, hpc⟩ := hy.phis.open_
  obtain ⟨qa, qc, qe, -, -, hqc⟩ := hy.insts.open_
  rw [show y.cells.toArray = #[.string y.name, .slice pa y.phis.2.length pc, .slice qa y.insts.2.length qc, .int .i64 y.kind, .int .i64 y.var, .int .i64 y.to0, .int .i64 y.to1] by unfold BlockM.cells; rw [pe, qe]]
  have HYB := kept hy
  have HPC := kept hpc
  have HQC := kept hqc
  have HQ := kept hq
  have CA := kept (fun v W h => among_any v q W h)
  have CI := kept (fun x W h1 h2 => is15_any x op q W h1 h2)
  obtain ⟨hb1, hb2⟩ := hb
  have HTH := kept (show throughM y op q.2 pl was = (y.insts.2.take pl).foldl (instG op q.2) (y.phis.2.foldl (phiG q.2) was) from rfl)
  generalize throughM y op q.2 pl was = R at *
  clear hy hpc hqc hq pe qe
  generalize hpn : y.phis.2.length = pn at *
  have HPN := kept hpn
  generalize hqn : y.insts.2.length = qn at *
  have HQN := kept hqn
  clear hpn hqn
  have hk0 : Keeps w (w.alloc (.cells #[.string y.name, .slice pa pn pc, .slice qa qn qc, .int .i64 y.kind, .int .i64 y.var, .int .i64 y.to0, .int .i64 y.to1] 38)) [] := (Keeps.refl _ []).alloc _
  have bb0 := Blk.new w 38 #[.string y.name, .slice pa pn pc, .slice qa qn qc, .int .i64 y.kind, .int .i64 y.var, .int .i64 y.to0, .int .i64 y.to1]
  have Bl := kept bb0
  have HK := kept hk0
  obtain ⟨l0, l1, l2, l3, l4, l5, l6⟩ := Bl.out.c7
  simp at l0 l1 l2 l3 l4 l5 l6
  clear hk0 bb0
  go_enter Tryz.func38, Tryz.ntmps38
  go_wp2
  clear l0 l1 l2 l3 l4 l5 l6
  generalize (w.alloc (.cells #[.string y.name, .slice pa pn pc, .slice qa qn qc, .int .i64 y.kind, .int .i64 y.var, .int .i64 y.to0, .int .i64 y.to1] 38)) = W0 at *
  have Bl_W0 := Bl
  have TW0 := HK
  clear HK
  have HK := kept (Keeps.refl W0 [])
  obtain ⟨l0, l1, l2, l3, l4, l5, l6⟩ := Bl.out.c7
  simp at l0 l1 l2 l3 l4 l5 l6
  go_loopw [4, 18] (fun b' i' wx => ∃ j : Nat, j ≤ pn ∧ i' = .int .i64 j ∧ b' = .bool ((y.phis.2.take j).foldl (phiG q.2) was) ∧ Keeps W0 wx []) (fun _ i' _ => pn - (intOf i').toNat)
  case atStart => exact ⟨0, Nat.zero_le _, rfl, rfl, Keeps.refl _ _⟩
  case round =>
    obtain ⟨j, hj, rfl, rfl, hr⟩ := hrel
    clear l0 l1 l2 l3 l4 l5 l6
    clear Bl HK
    have HK := kept hr
    have Bl := kept (Bl_W0.out.keep hr (by simp))
    clear hr
    obtain ⟨l0, l1, l2, l3, l4, l5, l6⟩ := Bl.out.c7
    simp at l0 l1 l2 l3 l4 l5 l6
    by_cases hlt : j < pn
    · have hltz : (j : Int) < (pn : Int) := by omega
      obtain ⟨pb, po, rfl, hpb, hcell⟩ := HPC.out j (by first | exact hlt | (rw [HPN.out]; exact hlt))
      have HF := kept (fold_take (phiG q.2) was y.phis.2 j (by rw [HPN.out]; exact hlt))
      have hpa := HYB.out.phi _ (bang_mem (l := y.phis.2) (k := j) (by rw [HPN.out]; exact hlt))
      obtain ⟨ua, va1, e1, -, -, -⟩ := IntsAt.open_ hpa.1
      obtain ⟨ub, va2, e2, -, -, -⟩ := IntsAt.open_ hpa.2
      have n0 := (TW0.out.and_then HK.out).cellOf (hcell 0 _ rfl)
      have n1 := (TW0.out.and_then HK.out).cellOf (hcell 1 _ rfl)
      have n2 := (TW0.out.and_then HK.out).cellOf (hcell 2 _ rfl)
      simp only [Nat.add_zero] at n0
      rw [e1] at n1
      rw [e2] at n2
      clear e1 e2 hpa
      clear hcell
      generalize y.phis.2[j]! = p at *
      generalize (y.phis.2.take j).foldl (phiG q.2) was = bw at *
      have HCD := kept (show phiG q.2 bw p = if q.2.contains p.dst = true then false else bw from rfl)
      have CD := kept (CA.out p.dst)
      generalize q.2.contains p.dst = bc at *
      cases bc
      · go_wp2_with (first | (go_at_call 69; refine (CD.out _ (Row.keep HQ.out ((TW0.out.and_then HK.out).alloc _))).mono ?_; rintro e w3 ⟨rfl, rfl⟩))
        go_roundw
        case rel => exact ⟨j + 1, by omega, by go_num, by rw [HF.out, HCD.out]; first | rfl | (cases bw <;> rfl), HK.out.alloc _⟩
        case measure => simp [intOf]; omega
      · go_wp2_with (first | (go_at_call 69; refine (CD.out _ (Row.keep HQ.out ((TW0.out.and_then HK.out).alloc _))).mono ?_; rintro e w3 ⟨rfl, rfl⟩))
        go_roundw
        case rel => exact ⟨j + 1, by omega, by go_num, by rw [HF.out, HCD.out]; first | rfl | (cases bw <;> rfl), HK.out.alloc _⟩
        case measure => simp [intOf]; omega
    · have hltz : ¬ (j : Int) < (pn : Int) := by omega
      have HS := kept (show (y.phis.2.take j).foldl (phiG q.2) was = y.phis.2.foldl (phiG q.2) was by rw [show j = y.phis.2.length by rw [HPN.out]; omega, List.take_length])
      rw [HS.out]
      clear HS HPC
      generalize y.phis.2.foldl (phiG q.2) was = s0 at *
      go_wp2
      obtain ⟨W1, hW1⟩ : ∃ W1 : World, W1 = wr := ⟨_, rfl⟩
      subst hW1
      clear l0 l1 l2 l3 l4 l5 l6
      have Bl_W1 := Bl
      have TW1 := HK
      clear HK
      have HK := kept (Keeps.refl W1 [])
      obtain ⟨l0, l1, l2, l3, l4, l5, l6⟩ := Bl.out.c7
      simp at l0 l1 l2 l3 l4 l5 l6
      go_loopw [4, 28] (fun b' i' wx => ∃ k : Nat, k ≤ pl ∧ i' = .int .i64 k ∧ b' = .bool ((y.insts.2.take k).foldl (instG op q.2) s0) ∧ Keeps W1 wx []) (fun _ i' _ => pl - (intOf i').toNat)
      case atStart => exact ⟨0, Nat.zero_le _, rfl, rfl, Keeps.refl _ _⟩
      case round =>
        obtain ⟨k, hk, rfl, rfl, hr⟩ := hrel
        clear l0 l1 l2 l3 l4 l5 l6
        clear Bl HK
        have HK := kept hr
        have Bl := kept (Bl_W1.out.keep hr (by simp))
        clear hr
        obtain ⟨l0, l1, l2, l3, l4, l5, l6⟩ := Bl.out.c7
        simp at l0 l1 l2 l3 l4 l5 l6
        by_cases hlk : k < pl
        · have hlkz : (k : Int) < (pl : Int) := by omega
          have hkq : (k : Int) < (qn : Int) := by omega
          obtain ⟨ib, io, rfl, hib, hcell⟩ := HQC.out k (by first | omega | (rw [HQN.out]; omega))
          have HF := kept (fold_take (instG op q.2) s0 y.insts.2 k (by rw [HQN.out]; omega))
          have hxa := (HYB.out.inst _ (bang_mem (l := y.insts.2) (k := k) (by rw [HQN.out]; omega)))
          have n0 := (TW0.out.and_then (TW1.out.and_then HK.out)).cellOf (hcell 0 _ rfl)
          have n1 := (TW0.out.and_then (TW1.out.and_then HK.out)).cellOf (hcell 1 _ rfl)
          have n2 := (TW0.out.and_then (TW1.out.and_then HK.out)).cellOf (hcell 2 _ rfl)
          have n3 := (TW0.out.and_then (TW1.out.and_then HK.out)).cellOf (hcell 3 _ rfl)
          obtain ⟨ua, va1, e1, -, -, -⟩ := IntsAt.open_ hxa
          simp only [Nat.add_zero] at n0
          rw [e1] at n2
          clear hcell HQC
          generalize y.insts.2[k]! = x at *
          have HXA := kept hxa
          clear hxa
          generalize (y.insts.2.take k).foldl (instG op q.2) s0 = bw at *
          have HCD := kept (show instG op q.2 bw x = if (decide (0 ≤ x.dst) && q.2.contains x.dst) = true then false else (isB x op q.2 || bw) from rfl)
          have CD := kept (CA.out x.dst)
          have CX := kept (CI.out x)
          rw [e1] at CX
          clear e1
          generalize q.2.contains x.dst = bc at *
          generalize isB x op q.2 = bi at *
          go_upto_region 11 with (fail)
          clear l0 l1 l2 l3 l4 l5 l6
          have bmx := Blk.new wr 43 #[.int .i64 x.op, .int .i64 x.dst, .slice ua x.args.2.length va1, .int .i64 x.num]
          have k3 : Keeps wr (wr.alloc (.cells #[.int .i64 x.op, .int .i64 x.dst, .slice ua x.args.2.length va1, .int .i64 x.num] 43)) [] := (Keeps.refl wr []).alloc _
          replace Bl := kept (Bl.out.keep k3 (by simp))
          replace HK := kept (HK.out.and_then k3)
          have Bx := kept bmx
          clear k3 bmx
          obtain ⟨l0, l1, l2, l3, l4, l5, l6⟩ := Bl.out.c7
          obtain ⟨x0, x1, x2, x3⟩ := Bx.out.c4
          simp at l0 l1 l2 l3 l4 l5 l6 x0 x1 x2 x3
          generalize hWX : wr.alloc (.cells #[.int .i64 x.op, .int .i64 x.dst, .slice ua x.args.2.length va1, .int .i64 x.num] 43) = WX at *
          clear hWX
          clear l0 l1 l2 l3 l4 l5 l6 x0 x1 x2 x3
          obtain ⟨l0, l1, l2, l3, l4, l5, l6⟩ := Bl.out.c7
          obtain ⟨x0, x1, x2, x3⟩ := Bx.out.c4
          simp at l0 l1 l2 l3 l4 l5 l6 x0 x1 x2 x3
          by_cases hd0 : 0 ≤ x.dst
          · cases bc
            · cases bi
              · go_wp2_with (first | (go_at_call 15; refine (CX.out _ (show InstAt _ x from Row.keep (show IntsAt w x.args from HXA.out) (TW0.out.and_then (TW1.out.and_then HK.out))) (Row.keep HQ.out (TW0.out.and_then (TW1.out.and_then HK.out)))).mono ?_; rintro e w3 ⟨rfl, k3⟩; clear l0 l1 l2 l3 l4 l5 l6 x0 x1 x2 x3; replace Bl := kept (Bl.out.keep k3 (by simp)); replace Bx := kept (Bx.out.keep k3 (by simp)); replace HK := kept (HK.out.and_then k3); obtain ⟨l0, l1, l2, l3, l4, l5, l6⟩ := Bl.out.c7; obtain ⟨x0, x1, x2, x3⟩ := Bx.out.c4; simp at l0 l1 l2 l3 l4 l5 l6 x0 x1 x2 x3; clear k3) | (go_at_call 69; refine (CD.out _ (Row.keep HQ.out (TW0.out.and_then (TW1.out.and_then HK.out)))).mono ?_; rintro e w3' ⟨rfl, rfl⟩))
                go_roundw
                case rel => exact ⟨k + 1, by omega, by go_num, by rw [HF.out, HCD.out]; simp [*], HK.out⟩
                case measure => simp [intOf]; omega
              · go_wp2_with (first | (go_at_call 15; refine (CX.out _ (show InstAt _ x from Row.keep (show IntsAt w x.args from HXA.out) (TW0.out.and_then (TW1.out.and_then HK.out))) (Row.keep HQ.out (TW0.out.and_then (TW1.out.and_then HK.out)))).mono ?_; rintro e w3 ⟨rfl, k3⟩; clear l0 l1 l2 l3 l4 l5 l6 x0 x1 x2 x3; replace Bl := kept (Bl.out.keep k3 (by simp)); replace Bx := kept (Bx.out.keep k3 (by simp)); replace HK := kept (HK.out.and_then k3); obtain ⟨l0, l1, l2, l3, l4, l5, l6⟩ := Bl.out.c7; obtain ⟨x0, x1, x2, x3⟩ := Bx.out.c4; simp at l0 l1 l2 l3 l4 l5 l6 x0 x1 x2 x3; clear k3) | (go_at_call 69; refine (CD.out _ (Row.keep HQ.out (TW0.out.and_then (TW1.out.and_then HK.out)))).mono ?_; rintro e w3' ⟨rfl, rfl⟩))
                go_roundw
                case rel => exact ⟨k + 1, by omega, by go_num, by rw [HF.out, HCD.out]; simp [*], HK.out⟩
                case measure => simp [intOf]; omega
            · cases bi
              · go_wp2_with (first | (go_at_call 15; refine (CX.out _ (show InstAt _ x from Row.keep (show IntsAt w x.args from HXA.out) (TW0.out.and_then (TW1.out.and_then HK.out))) (Row.keep HQ.out (TW0.out.and_then (TW1.out.and_then HK.out)))).mono ?_; rintro e w3 ⟨rfl, k3⟩; clear l0 l1 l2 l3 l4 l5 l6 x0 x1 x2 x3; replace Bl := kept (Bl.out.keep k3 (by simp)); replace Bx := kept (Bx.out.keep k3 (by simp)); replace HK := kept (HK.out.and_then k3); obtain ⟨l0, l1, l2, l3, l4, l5, l6⟩ := Bl.out.c7; obtain ⟨x0, x1, x2, x3⟩ := Bx.out.c4; simp at l0 l1 l2 l3 l4 l5 l6 x0 x1 x2 x3; clear k3) | (go_at_call 69; refine (CD.out _ (Row.keep HQ.out (TW0.out.and_then (TW1.out.and_then HK.out)))).mono ?_; rintro e w3' ⟨rfl, rfl⟩))
                go_roundw
                case rel => exact ⟨k + 1, by omega, by go_num, by rw [HF.out, HCD.out]; simp [*], HK.out⟩
                case measure => simp [intOf]; omega
              · go_wp2_with (first | (go_at_call 15; refine (CX.out _ (show InstAt _ x from Row.keep (show IntsAt w x.args from HXA.out) (TW0.out.and_then (TW1.out.and_then HK.out))) (Row.keep HQ.out (TW0.out.and_then (TW1.out.and_then HK.out)))).mono ?_; rintro e w3 ⟨rfl, k3⟩; clear l0 l1 l2 l3 l4 l5 l6 x0 x1 x2 x3; replace Bl := kept (Bl.out.keep k3 (by simp)); replace Bx := kept (Bx.out.keep k3 (by simp)); replace HK := kept (HK.out.and_then k3); obtain ⟨l0, l1, l2, l3, l4, l5, l6⟩ := Bl.out.c7; obtain ⟨x0, x1, x2, x3⟩ := Bx.out.c4; simp at l0 l1 l2 l3 l4 l5 l6 x0 x1 x2 x3; clear k3) | (go_at_call 69; refine (CD.out _ (Row.keep HQ.out (TW0.out.and_then (TW1.out.and_then HK.out)))).mono ?_; rintro e w3' ⟨rfl, rfl⟩))
                go_roundw
                case rel => exact ⟨k + 1, by omega, by go_num, by rw [HF.out, HCD.out]; simp [*], HK.out⟩
                case measure => simp [intOf]; omega
          · cases bi
            · go_wp2_with (first | (go_at_call 15; refine (CX.out _ (show InstAt _ x from Row.keep (show IntsAt w x.args from HXA.out) (TW0.out.and_then (TW1.out.and_then HK.out))) (Row.keep HQ.out (TW0.out.and_then (TW1.out.and_then HK.out)))).mono ?_; rintro e w3 ⟨rfl, k3⟩; clear l0 l1 l2 l3 l4 l5 l6 x0 x1 x2 x3; replace Bl := kept (Bl.out.keep k3 (by simp)); replace Bx := kept (Bx.out.keep k3 (by simp)); replace HK := kept (HK.out.and_then k3); obtain ⟨l0, l1, l2, l3, l4, l5, l6⟩ := Bl.out.c7; obtain ⟨x0, x1, x2, x3⟩ := Bx.out.c4; simp at l0 l1 l2 l3 l4 l5 l6 x0 x1 x2 x3; clear k3) | (go_at_call 69; refine (CD.out _ (Row.keep HQ.out (TW0.out.and_then (TW1.out.and_then HK.out)))).mono ?_; rintro e w3' ⟨rfl, rfl⟩))
              go_roundw
              case rel => exact ⟨k + 1, by omega, by go_num, by rw [HF.out, HCD.out]; simp [*], HK.out⟩
              case measure => simp [intOf]; omega
            · go_wp2_with (first | (go_at_call 15; refine (CX.out _ (show InstAt _ x from Row.keep (show IntsAt w x.args from HXA.out) (TW0.out.and_then (TW1.out.and_then HK.out))) (Row.keep HQ.out (TW0.out.and_then (TW1.out.and_then HK.out)))).mono ?_; rintro e w3 ⟨rfl, k3⟩; clear l0 l1 l2 l3 l4 l5 l6 x0 x1 x2 x3; replace Bl := kept (Bl.out.keep k3 (by simp)); replace Bx := kept (Bx.out.keep k3 (by simp)); replace HK := kept (HK.out.and_then k3); obtain ⟨l0, l1, l2, l3, l4, l5, l6⟩ := Bl.out.c7; obtain ⟨x0, x1, x2, x3⟩ := Bx.out.c4; simp at l0 l1 l2 l3 l4 l5 l6 x0 x1 x2 x3; clear k3) | (go_at_call 69; refine (CD.out _ (Row.keep HQ.out (TW0.out.and_then (TW1.out.and_then HK.out)))).mono ?_; rintro e w3' ⟨rfl, rfl⟩))
              go_roundw
              case rel => exact ⟨k + 1, by omega, by go_num, by rw [HF.out, HCD.out]; simp [*], HK.out⟩
              case measure => simp [intOf]; omega
        · have hlkz : ¬ (k : Int) < (pl : Int) := by omega
          have HS := kept (show (y.insts.2.take k).foldl (instG op q.2) s0 = R by rw [HTH.out, show k = pl by omega])
          rw [HS.out]
          go_wp2
          go_ret
          exact ⟨rfl, (TW0.out.and_then (TW1.out.and_then HK.out))⟩
end Go.Proofs.YtjllbchfojonhaaGreatDoor
