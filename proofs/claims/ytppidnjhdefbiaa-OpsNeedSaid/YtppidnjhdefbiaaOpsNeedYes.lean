/- Package ops: the law OpsNeed, where a check matches: up to the walk over all operations. -/
import Derived.Test.YtppidnjhdefbiaaOpsNeedShort
namespace Go.Proofs.Ytppidnjhdefbiaa
open Go.RowKit
set_option linter.unusedVariables false
set_option linter.unusedSimpArgs false
attribute [local go_sem] Oper.semAt_some

/-- the answer's arguments, j of them raised already -/
structure Rz (w W : World) (ga ca M fr j : Nat) (z : Nat → Int) (op dst num : Int) (s : Value) : Prop where
  lb : LB w W op dst num s false
  row : ∃ cur : Array Value, Blk W ga 3 cur ∧ cur.size = ca ∧ ∀ i, i < M → cur[i]? = some (.int .i64 (if i < j then wrap64 (z (fr + i) + 1) else z (fr + i)))
theorem Rz.at {w W : World} {ga ca M fr j : Nat} {z : Nat → Int} {op dst num : Int} {s : Value} (h : Rz w W ga ca M fr j z op dst num s) (hj : j < M) : W.cell? ⟨ga, j, none⟩ = some (.int .i64 (z (fr + j))) ∧ W.frozen? ⟨ga, j, none⟩ = false := by
  obtain ⟨cur, h1, _, h3⟩ := h.row
  refine ⟨?_, h1.frozen j⟩
  rw [h1.cell j, h3 j hj, if_neg (Nat.lt_irrefl _)]
theorem Rz.step {w W W' : World} {ga ca M fr j : Nat} {z : Nat → Int} {op dst num : Int} {s : Value} (h : Rz w W ga ca M fr j z op dst num s) (hj : j < M) (hca : M ≤ ca) (hg : w.heap.size + 2 ≤ ga) (k : Keeps W W' []) : Rz w (W'.setCell ⟨ga, j, none⟩ (.int .i64 (wrap64 (z (fr + j) + 1)))) ga ca M fr (j + 1) z op dst num s := by
  obtain ⟨cur, h1, h2, h3⟩ := h.row
  refine ⟨(h.lb.next k).nextB ((Keeps.refl W' _).setCell (.inl (by simp)) _) hg, _, (h1.keep k (by simp)).set_ j _, by rw [Array.size_setIfInBounds, h2], fun i hi => ?_⟩
  rw [Array.getElem?_setIfInBounds]
  by_cases e : j = i
  · subst e
    rw [if_pos rfl, if_pos (by omega), if_pos (by omega)]
  · rw [if_neg e, h3 i hi]
    by_cases h4 : i < j
    · rw [if_pos h4, if_pos (by omega)]
    · rw [if_neg h4, if_neg (by omega)]
theorem Rz.next {w W W' : World} {ga ca M fr j : Nat} {z : Nat → Int} {op dst num : Int} {s : Value} (h : Rz w W ga ca M fr j z op dst num s) (k : Keeps W W' []) : Rz w W' ga ca M fr j z op dst num s := by
  obtain ⟨cur, h1, h2, h3⟩ := h.row
  exact ⟨h.lb.next k, cur, h1.keep k (by simp), h2, h3⟩
theorem cell_later {W W0 W' : World} {b i : Nat} {v : Value} (h : W.cell? ⟨b, i, none⟩ = some v) (k : Keeps W0 W' []) (e : Keeps W W0 []) : W'.cell? ⟨b, i, none⟩ = some v := k.cellOf (e.cellOf h)
theorem obj_keep {W W' : World} {D : Nat} {o : Obj} (h : W.heap[D]? = some o) (k : Keeps W W' []) : W'.heap[D]? = some o := (k.block D (Array.getElem?_eq_some_iff.1 h).1 (by simp)).trans h
theorem obj_later {W W0 W' : World} {D : Nat} {o : Obj} (h : W.heap[D]? = some o) (k : Keeps W0 W' []) (e : Keeps W W0 []) : W'.heap[D]? = some o := obj_keep (obj_keep h e) k
theorem blk_later {W W0 W' : World} {g : Nat} {t : TypeId} {cs : Array Value} (h : Blk W g t cs) (k : Keeps W0 W' []) (e : Keeps W W0 []) : Blk W' g t cs := (h.keep e (by simp)).keep k (by simp)

set_option maxRecDepth 100000 in
set_option maxHeartbeats 16000000 in
theorem need_yes5 (dst num : Int) (b off : Nat) (len cap : Nat) (h : 2 ≤ len) (h10 : len ≤ 10) (hc : len ≤ cap) (hm : cap ≤ maxLen) (z : Nat → Int) (w : World) (hz : ∀ i, i < len → w.cell? ⟨b, off + i, none⟩ = some (.int .i64 (z i))) :
    Calls Try.prog 14 #[.agg #[.int .i64 5, .int .i64 dst, .slice (some ⟨b, off, none⟩) len cap, .int .i64 num]] w fun e w' => e = .returned (.bool true) ∧ Below w.heap.size w w' := by
  have hd : decide (10 < (len : Int)) = false := by simp; omega
  have hd2 : decide ((len : Int) < 2) = false := by simp; omega
  have CRO := kept rows_k
  have CN := kept (fun w hz => needs_yes5 dst num b off len cap h hc hm z w hz)
  have HZ := kept hz
  clear hz
  obtain ⟨y, hy⟩ : ∃ y, ktakes 5 = y := ⟨_, rfl⟩
  have hys : y.size = 2 := by rw [← hy]; rfl
  have HK : Hid (kcells[16]? = some (.string y)) := by rw [← hy]; exact (kcell 5 (by decide)).2.1
  clear hy
  have L0 : Hid (LB w ((w.alloc (.cells #[.int .i64 5, .int .i64 dst, .slice (some ⟨b, off, none⟩) len cap, .int .i64 num] 77)).alloc (.cells #[.bool false] 4)) 5 dst num (.slice (some ⟨b, off, none⟩) len cap) false) := LB.start
  refine (callsIn_wide (n := 5)).1 ?_
  refine callsIn_of_wp_marks Try.func14 rfl trivial ?_ rfl
  refine wpIn_wide.2 ?_
  simp only [Try.ntmps14, List.size_toArray, List.length_cons, List.length_nil, Nat.reduceAdd, Nat.reduceSub, Array.replicate_succ, Array.replicate_zero, List.push_toArray, List.append_toArray, List.nil_append, List.cons_append]
  go_wp2_with fail
  generalize (w.alloc (.cells #[.int .i64 5, .int .i64 dst, .slice (some ⟨b, off, none⟩) len cap, .int .i64 num] 77)).alloc (.cells #[.bool false] 4) = W0 at *
  refine (opslives _).mono ?_
  rintro e W1 ⟨rfl, k⟩
  have l1 := L0.out.next k
  clear k L0
  have L1 := kept l1
  clear l1
  obtain ⟨c0, c1, c2, c3, c4, c5⟩ := L1.out.cells

  go_wp2_with fail
  refine (CN.out _ (fun i hi => L1.out.keeps.cellOf (HZ.out i hi))).mono ?_
  rintro e W2 ⟨v, rfl, ho, k⟩
  have hge1 := L1.out.ge
  obtain ⟨ga, ca, rfl, hga, hca, hcells⟩ : ∃ ga ca, v = .slice (some ⟨ga, 0, none⟩) 1 ca ∧ w.heap.size + 2 ≤ ga ∧ 1 ≤ ca ∧ ∃ cur, Blk W2 ga 3 cur ∧ cur.size = ca ∧ cur.toList.take 1 = [.int .i64 (z 1)] := by
    rcases ho.2 with ⟨_, h0⟩ | ⟨g, cp, cur, h1, h2, h3, h4, h5, h6, h7⟩
    · exact absurd h0 (by decide)
    · exact ⟨g, cp, h1, by omega, h4, cur, h3, by simpa using h6, by simpa using h7⟩
  obtain ⟨cur, hcur, hcs, hct⟩ := hcells
  have AR := kept hcur
  have HCT := kept hct
  have HCS := kept hcs
  have HGA := kept hga
  have HCA := kept hca
  have l2 := L1.out.next k
  clear k L1 c0 c1 c2 c3 c4 c5 ho hcur hct hcs hga hca hge1
  have L2 := kept l2
  clear l2
  obtain ⟨c0, c1, c2, c3, c4, c5⟩ := L2.out.cells
  have MB := kept (World.alloc_heap_new W2 (.map #[] 0))
  have l3 := L2.out.next ((Keeps.refl W2 []).alloc (.map #[] 0))
  have ar := AR.out.keep ((Keeps.refl W2 []).alloc (.map #[] 0)) (by simp)
  have HG := kept L2.out.ge
  have HNE : Hid (ga ≠ W2.heap.size) := fun e => by have := AR.out.lt; omega
  clear L2 AR c0 c1 c2 c3 c4 c5
  have L3 := kept l3
  have AR := kept ar
  clear l3 ar
  have hmm := @run_makeMap Try.prog
  generalize hgm : W2.heap.size = gm at *
  go_upto_region 5 with (refine wpList_put _ rfl _ _ _ rfl gm _ _ _ _ rfl rfl rfl MB.out (by rfl) ?_; intro W3 mb km; replace L3 := kept (L3.out.nextB km HG.out); replace AR := kept (AR.out.keep km (by simp; exact HNE.out)); replace MB := kept mb; clear mb km)
  have hl := run_look _ _ _ _ MB.out 5 (some (0, .int .i64 20)) (by rfl)
  obtain ⟨c0, c1, c2, c3, c4, c5⟩ := L3.out.cells
  go_wp2_with fail
  clear hl MB hmm
  refine wp_region_noPanic ?_
  refine wp_region_held_drew (S := (fun w' => w'.cell? ⟨w.heap.size, 0, none⟩ = some (.int .i64 5) ∧ w'.cell? ⟨w.heap.size, 2, none⟩ = some (.slice (some ⟨b, off, none⟩) len cap))) (by kernel_rfl) ?hSs (fun hHeld => ?_)
  case hSs => exact ⟨c0, c2⟩
  refine wpAnyH_take (i := 0) (oi := { dst := some 40, op := Op.move (Operand.tmp 8), type := 4, pos := "law.go:76", after := #[], guard := none }) (v := ?v0) rfl (by kernel_rfl) (by kernel_rfl) (by kernel_rfl) (fun _ _ _ h => h) (Or.inl ⟨by rfl, ?y0⟩) hHeld ?r0
  case y0 => (intro w hSw; (try dsimp only at hSw); go_simp; (try with_reducible rfl))
  try simp only [Act.put, List.setIfInBounds_toArray, List.set_cons_zero, List.set_cons_succ]
  refine wpAnyH_take (i := 1) (oi := { dst := some 41, op := Op.unOp UnOp.not 4 (Operand.tmp 40), type := 4, pos := "law.go:76", after := #[{ on := 0, ground := Ground.data }], guard := none }) (v := ?v1) rfl (by kernel_rfl) (by kernel_rfl) (by kernel_rfl) (fun _ _ _ h => h) (Or.inl ⟨by rfl, ?y1⟩) hHeld ?r1
  case y1 => (intro w hSw; (try dsimp only at hSw); go_simp; (try with_reducible rfl))
  try simp only [Act.put, List.setIfInBounds_toArray, List.set_cons_zero, List.set_cons_succ]
  refine wpAnyH_take (i := 2) (oi := { dst := some 42, op := Op.move (Operand.tmp 41), type := 4, pos := "law.go:76", after := #[{ on := 1, ground := Ground.data }], guard := none }) (v := ?v2) rfl (by kernel_rfl) (by kernel_rfl) (by kernel_rfl) (fun _ _ _ h => h) (Or.inl ⟨by rfl, ?y2⟩) hHeld ?r2
  case y2 => (intro w hSw; (try dsimp only at hSw); go_simp; (try with_reducible rfl))
  try simp only [Act.put, List.setIfInBounds_toArray, List.set_cons_zero, List.set_cons_succ]
  refine wpAnyH_take (i := 3) (oi := { dst := some 43, op := Op.fieldAddr 77 (Operand.tmp 1) 2, type := 0, pos := "law.go:76", after := #[{ on := 2, ground := Ground.guard }], guard := some (2, false) }) (v := ?v3) rfl (by kernel_rfl) (by kernel_rfl) (by kernel_rfl) (fun _ _ _ h => h) (Or.inl ⟨by rfl, ?y3⟩) hHeld ?r3
  case y3 => (intro w hSw; (try dsimp only at hSw); go_simp; (try with_reducible rfl))
  try simp only [Act.put, List.setIfInBounds_toArray, List.set_cons_zero, List.set_cons_succ]
  refine wpAnyH_take (i := 4) (oi := { dst := some 44, op := Op.load 58 (Operand.tmp 43), type := 58, pos := "law.go:76", after := #[{ on := 3, ground := Ground.data }, { on := 2, ground := Ground.guard }], guard := some (2, false) }) (v := ?v4) rfl (by kernel_rfl) (by kernel_rfl) (by kernel_rfl) (fun _ _ _ h => h) (Or.inl ⟨by rfl, ?y4⟩) hHeld ?r4
  case y4 => (intro w hSw; (try dsimp only at hSw); go_simp; (try with_reducible rfl))
  try simp only [Act.put, List.setIfInBounds_toArray, List.set_cons_zero, List.set_cons_succ]
  refine wpAnyH_take (i := 5) (oi := { dst := some 45, op := Op.call { callee := Callee.builtin Builtin.len, args := #[Operand.tmp 44], argTypes := #[58] }, type := 3, pos := "law.go:76", after := #[{ on := 4, ground := Ground.data }, { on := 2, ground := Ground.guard }], guard := some (2, false) }) (v := ?v5) rfl (by kernel_rfl) (by kernel_rfl) (by kernel_rfl) (fun _ _ _ h => h) (Or.inl ⟨by rfl, ?y5⟩) hHeld ?r5
  case y5 => (intro w hSw; (try dsimp only at hSw); go_simp; (try with_reducible rfl))
  try simp only [Act.put, List.setIfInBounds_toArray, List.set_cons_zero, List.set_cons_succ]
  refine wpAnyH_take (i := 7) (oi := { dst := some 47, op := Op.fieldAddr 77 (Operand.tmp 1) 0, type := 0, pos := "law.go:76", after := #[{ on := 2, ground := Ground.guard }], guard := some (2, false) }) (v := ?v7) rfl (by kernel_rfl) (by kernel_rfl) (by kernel_rfl) (fun _ _ _ h => h) (Or.inl ⟨by rfl, ?y7⟩) hHeld ?r7
  case y7 => (intro w hSw; (try dsimp only at hSw); go_simp; (try with_reducible rfl))
  try simp only [Act.put, List.setIfInBounds_toArray, List.set_cons_zero, List.set_cons_succ]
  refine wpAnyH_take (i := 8) (oi := { dst := some 48, op := Op.load 44 (Operand.tmp 47), type := 44, pos := "law.go:76", after := #[{ on := 7, ground := Ground.data }, { on := 2, ground := Ground.guard }], guard := some (2, false) }) (v := ?v8) rfl (by kernel_rfl) (by kernel_rfl) (by kernel_rfl) (fun _ _ _ h => h) (Or.inl ⟨by rfl, ?y8⟩) hHeld ?r8
  case y8 => (intro w hSw; (try dsimp only at hSw); go_simp; (try with_reducible rfl))
  try simp only [Act.put, List.setIfInBounds_toArray, List.set_cons_zero, List.set_cons_succ]
  refine wpAnyH_ready (rs := [6]) (by kernel_rfl) (by simp) ?_
  refine AllReadyH.cons (o := { dst := some 46, op := Op.call { callee := Callee.value (Operand.func 40), args := #[], argTypes := #[] }, type := 47, pos := "law.go:76", after := #[{ on := 2, ground := Ground.chain }, { on := 2, ground := Ground.guard }], guard := some (2, false) }) rfl (fun K hK => ?_) AllReadyH.nil
  go_simp
  (with_reducible refine (CRO.out _).mono ?_)
  rintro e wx ⟨rfl, k⟩
  show K _ _
  obtain ⟨k, rb⟩ := k
  have r1 : wx.cell? ⟨W3.heap.size, 16, none⟩ = some (.string y) := (rb.cell 16).trans HK.out
  clear rb
  have lx := L3.out.later k (by first | exact Keeps.refl _ [] | exact (Keeps.refl _ []).drew)
  have ar := blk_later AR.out k (by first | exact Keeps.refl _ [] | exact (Keeps.refl _ []).drew)
  clear k c0 c1 c2 c3 c4 c5 L3 AR
  obtain ⟨c0, c1, c2, c3, c4, c5⟩ := lx.cells
  have L3 := kept lx
  have AR := kept ar
  clear lx ar
  clear hHeld
  refine hK.out _ _ ?hS6 (fun hHeld => ?_)
  case hS6 => exact ⟨c0, c2⟩
  clear hK K
  try simp only [Act.put, List.setIfInBounds_toArray, List.set_cons_zero, List.set_cons_succ]
  refine wpAnyH_take (i := 9) (oi := { dst := some 49, op := Op.indexAddr 47 (Operand.tmp 46) (Operand.tmp 48), type := 0, pos := "law.go:76", after := #[{ on := 6, ground := Ground.data }, { on := 8, ground := Ground.data }, { on := 2, ground := Ground.guard }], guard := some (2, false) }) (v := ?v9) rfl (by kernel_rfl) (by kernel_rfl) (by kernel_rfl) (fun _ _ _ h => h) (Or.inl ⟨by rfl, ?y9⟩) hHeld ?r9
  case y9 => (intro w hSw; (try dsimp only at hSw); go_simp; (try with_reducible rfl))
  try simp only [Act.put, List.setIfInBounds_toArray, List.set_cons_zero, List.set_cons_succ]
  refine wpAnyH_take (i := 10) (oi := { dst := some 50, op := Op.fieldAddr 50 (Operand.tmp 49) 1, type := 0, pos := "law.go:76", after := #[{ on := 9, ground := Ground.data }, { on := 2, ground := Ground.guard }], guard := some (2, false) }) (v := ?v10) rfl (by kernel_rfl) (by kernel_rfl) (by kernel_rfl) (fun _ _ _ h => h) (Or.inl ⟨by rfl, ?y10⟩) hHeld ?r10
  case y10 => (intro w hSw; (try dsimp only at hSw); go_simp; (try with_reducible rfl))
  try simp only [Act.put, List.setIfInBounds_toArray, List.set_cons_zero, List.set_cons_succ]
  refine wpAnyH_ready (rs := [11]) (by kernel_rfl) (by simp) ?_
  refine AllReadyH.cons (o := { dst := some 51, op := Op.load 9 (Operand.tmp 50), type := 9, pos := "law.go:76", after := #[{ on := 10, ground := Ground.data }, { on := 2, ground := Ground.guard }], guard := some (2, false) }) rfl (fun K hK => ?_) AllReadyH.nil
  go_simp
  clear hHeld
  refine hK.out _ _ ?hS11 (fun hHeld => ?_)
  case hS11 => exact ⟨c0, c2⟩
  clear hK K
  try simp only [Act.put, List.setIfInBounds_toArray, List.set_cons_zero, List.set_cons_succ]
  refine wpAnyH_take (i := 12) (oi := { dst := some 52, op := Op.call { callee := Callee.builtin Builtin.len, args := #[Operand.tmp 51], argTypes := #[9] }, type := 3, pos := "law.go:76", after := #[{ on := 11, ground := Ground.data }, { on := 2, ground := Ground.guard }], guard := some (2, false) }) (v := ?v12) rfl (by kernel_rfl) (by kernel_rfl) (by kernel_rfl) (fun _ _ _ h => h) (Or.inl ⟨by rfl, ?y12⟩) hHeld ?r12
  case y12 => (intro w hSw; (try dsimp only at hSw); go_simp; (try with_reducible rfl))
  try simp only [Act.put, List.setIfInBounds_toArray, List.set_cons_zero, List.set_cons_succ]
  refine wpAnyH_take (i := 13) (oi := { dst := some 53, op := Op.binOp BinOp.lss 3 (Operand.tmp 45) (Operand.tmp 52) 3, type := 4, pos := "law.go:76", after := #[{ on := 5, ground := Ground.data }, { on := 12, ground := Ground.data }, { on := 2, ground := Ground.guard }], guard := some (2, false) }) (v := ?v13) rfl (by kernel_rfl) (by kernel_rfl) (by kernel_rfl) (fun _ _ _ h => h) (Or.inl ⟨by rfl, ?y13⟩) hHeld ?r13
  case y13 => (intro w hSw; (try dsimp only at hSw); go_simp; (try with_reducible rfl))
  try simp only [Act.put, List.setIfInBounds_toArray, List.set_cons_zero, List.set_cons_succ]
  refine wpAnyH_take (i := 14) (oi := { dst := some 54, op := Op.pick (Operand.tmp 42) (Operand.const (Value.bool true)) (Operand.tmp 53), type := 4, pos := "law.go:76", after := #[{ on := 2, ground := Ground.data }, { on := 13, ground := Ground.data }], guard := none }) (v := ?v14) rfl (by kernel_rfl) (by kernel_rfl) (by kernel_rfl) (fun _ _ _ h => h) (Or.inl ⟨by rfl, ?y14⟩) hHeld ?r14
  case y14 => (intro w hSw; (try dsimp only at hSw); go_simp; (try with_reducible rfl))
  try simp only [Act.put, List.setIfInBounds_toArray, List.set_cons_zero, List.set_cons_succ]
  refine wpAnyH_done (by kernel_rfl) ?_ _
  refine NoPanic.normal ?_
  have RZ : Hid (Rz w wx ga ca 1 1 0 z 5 dst num (.slice (some ⟨b, off, none⟩) len cap)) := ⟨L3.out, cur, AR.out, HCS.out, fun i hi => by
    have hg : (cur.toList.take 1)[i]? = cur.toList[i]? := by rw [List.getElem?_take, if_pos hi]
    rw [if_neg (Nat.not_lt_zero _), ← Array.getElem?_toList, ← hg, HCT.out]
    match i, hi with
    | 0, _ => rfl
    | n + 1, h => exact absurd h (by omega)⟩
  clear L3 AR HCT HCS c0 c1 c2 c3 c4 c5
  go_wp2
  go_loopw [92] (fun i wr => ∃ j : Nat, j ≤ 1 ∧ i = .int .i64 j ∧ Rz w wr ga ca 1 1 j z 5 dst num (.slice (some ⟨b, off, none⟩) len cap)) (fun i _ => 1 - (intOf i).toNat)
  case atStart => exact ⟨0, by omega, rfl, RZ.out⟩
  case round =>
    obtain ⟨j, hj, rfl, hR⟩ := hrel
    have RZ := kept hR
    clear hR
    by_cases hlt : j < 1
    · obtain ⟨a0, a1⟩ := RZ.out.at hlt
      have a2 : wr.cell? ⟨b, off + 1 + j, none⟩ = some (.int .i64 (z (1 + j))) := by
        have := RZ.out.lb.keeps.cellOf (HZ.out (1 + j) (by omega))
        simpa [Nat.add_assoc] using this
      generalize hzj : z (1 + j) = zj at *
      have HZJ := kept hzj
      clear hzj
      go_wp2
      go_quiet (fail)
      have rz := RZ.out.step hlt HCA.out HGA.out ((Keeps.refl wr []).drewN nq)
      rw [HZJ.out] at rz
      go_wp2
      go_roundw
      case rel => exact ⟨j + 1, by omega, by go_num, rz⟩
      case measure => simp [intOf]; omega
    · obtain rfl : j = 1 := by omega
      clear hj hlt
      obtain ⟨c0, c1, c2, c3, c4, c5⟩ := RZ.out.lb.cells
      go_wp2_with fail
      refine (all60 _).mono ?_
      rintro e w6 ⟨rfl, rfl⟩
      have hn0 := cell_new_l wr (.int .i64 0) 3
      go_wp2_with fail
      refine (wpIn_wide (n := 5)).1 ?_
      refine' wpIn_rangeFunc_ownF rfl (by decide) (gf := 92) (lb := #[]) rfl trivial (enters_of Try.func92 (by kernel_rfl) rfl)
        (all_stops Fence.wide 4 trivial rfl (by decide) wr.heap.size _) belowK_t (belowK_b (by simp)) (Below.refl _ _) (fun _ => rfl)
        (fun pre W => (W.cell? ⟨wr.heap.size, 0, none⟩ = some (.int .i64 pre.length) ∧ W.frozen? ⟨wr.heap.size, 0, none⟩ = false) ∧ Below wr.heap.size (wr.alloc (.cells #[.int .i64 0] 3)) W)
        (fun c pre W => c = .ret ∧ ∃ p0 x, pre = p0 ++ [x] ∧ x ≠ (p0.length : Int))
        (OwnFrom.and (Own.from (fun s A B row hs hg hr => ⟨cell_kept hs.1 hg hr, (frozen_kept hs.1 hg hr).trans hs.2⟩) _) (ownFrom_below (by simp) (by simp)))
        (fun c => Own.from (fun s A B row hs hg hr => hs) _)
        ⟨hn0, Below.refl _ _⟩ _ ?assign ?body ?done ?stop
      case assign =>
        intro l x W K hK
        gi_wp2
        exact hK
      case body =>
        rintro l pre x W ⟨⟨hn1, hn2⟩, hBW⟩ _
        have hWsz := hBW.size
        have hr1 : W.cell? ⟨w.heap.size + 1, 0, none⟩ = some (.bool false) := by
          have hlt := RZ.out.lb.res.lt
          have h1 := hBW.block (w.heap.size + 1) hlt
          have h2 : (wr.alloc (.cells #[.int .i64 0] 3)).heap[w.heap.size + 1]? = wr.heap[w.heap.size + 1]? := Below.heap_alloc wr _ _ hlt
          rw [← c4]; simp only [World.cell?]; rw [h1, h2]
        have hr2 : W.frozen? ⟨w.heap.size + 1, 0, none⟩ = false := by
          have hlt := RZ.out.lb.res.lt
          have h1 := hBW.block (w.heap.size + 1) hlt
          have h2 : (wr.alloc (.cells #[.int .i64 0] 3)).heap[w.heap.size + 1]? = wr.heap[w.heap.size + 1]? := Below.heap_alloc wr _ _ hlt
          rw [← c5]; simp only [World.frozen?]; rw [h1, h2]
        by_cases hx : x = (pre.length : Int)
        · have hb : (x != (pre.length : Int)) = false := by simp [hx]
          have HX := kept hx
          clear hx
          gi_wp2
          have el : (((pre ++ [x]).length : Nat) : Int) = (pre.length : Int) + 1 := by simp
          exact ⟨KeepsOthers.setCell _ _ _, (Below.refl wr.heap.size W).setCell (p := ⟨wr.heap.size, 0, none⟩) (Nat.le_refl _) _, ⟨by rw [el]; exact World.cell?_setCell_same' _ _ _ (by rw [hn1]; rfl), by rw [World.frozen?_setCell]; exact hn2⟩, hBW.setCell (p := ⟨wr.heap.size, 0, none⟩) (Nat.le_refl _) _⟩
        · have hb : (x != (pre.length : Int)) = true := by simp [hx]
          have HX := kept hx
          clear hx
          gi_wp2
          exact ⟨KeepsOthers.setCell _ _ _, rfl, pre, x, rfl, HX.out⟩
      case done =>
        rintro D ys W hD rfl ⟨⟨hn1, hn2⟩, hBW⟩ hK
        have k6 : Keeps wr W [] := ⟨hBW.os, hBW.tape, hBW.output, Nat.le_trans (by simp) hBW.size, fun i hi _ => (hBW.block i hi).trans (Below.heap_alloc wr _ i hi)⟩
        have hn : W.cell? ⟨wr.heap.size, 0, none⟩ = some (.int .i64 27) := by rw [opsUpto_length] at hn1; exact hn1
        have HD := kept hD
        have HWR := kept (show w.heap.size + 1 < wr.heap.size from RZ.out.lb.res.lt)
        have l7 := RZ.out.lb.next k6
        have r7 : W.heap.size ≥ wr.heap.size := k6.size
        have HW7 := kept r7
        clear hn1 hn2 hBW k6 RZ c0 c1 c2 c3 c4 c5 hn0 hD r7
        have L7 := kept l7
        clear l7
        have HKD := kept hK
        clear hK
        obtain ⟨c0, c1, c2, c3, c4, c5⟩ := L7.out.cells
        go_wp2_with fail
        refine (CN.out _ (fun i hi => L7.out.keeps.cellOf (HZ.out i hi))).mono ?_
        rintro e W8 ⟨v2, rfl, ho, k⟩
        obtain ⟨g2, cb, rfl, hg2, hcell2⟩ : ∃ g2 cb, v2 = .slice (some ⟨g2, 0, none⟩) 1 cb ∧ W.heap.size ≤ g2 ∧ W8.cell? ⟨g2, 0, none⟩ = some (.int .i64 (z 1)) := by
          rcases ho.2 with ⟨_, h0⟩ | ⟨g, cp, cur2, h1, h2, h3, h4, h5, h6, h7⟩
          · exact absurd h0 (by decide)
          · refine ⟨g, cp, h1, h2, ?_⟩
            have hb2 : Blk W8 g 3 cur2 := h3
            rw [hb2.cell 0]
            have e1 : (cur2.toList.take (1 * 1))[0]? = cur2.toList[0]? := by rw [List.getElem?_take, if_pos (by decide)]
            rw [← Array.getElem?_toList, ← e1, h7]
            rfl
        have l8 := L7.out.next k
        have n1 := k.cellOf hn
        have n2 := hcell2
        have n3 : W8.cell? ⟨b, off + 1, none⟩ = some (.int .i64 (z 1)) := l8.keeps.cellOf (HZ.out 1 (by omega))
        have HKE := kept (obj_keep HKD.out k)
        have HE1 : Hid (wr.heap.size ≠ w.heap.size + 1) := fun e => by have := HWR.out; omega
        have HE2 : Hid (g2 ≠ w.heap.size + 1) := fun e => by have := HWR.out; have := HW7.out; omega
        have HE3 : Hid (b ≠ w.heap.size + 1) := fun e => by
          have := World.block_lt_of_cell? w _ (HZ.out 1 (by omega))
          simp at this
          omega
        clear k L7 c0 c1 c2 c3 c4 c5 ho hn hcell2 hg2 HKD
        have L8 := kept l8
        clear l8
        obtain ⟨c0, c1, c2, c3, c4, c5⟩ := L8.out.cells
        generalize z 1 = z0 at *
        go_wp2_with fail
        refine wp_region_noPanic ?_
        refine wp_region_held_drew (S := (fun w' => w'.cell? ⟨wr.heap.size, 0, none⟩ = some (.int .i64 27) ∧ w'.cell? ⟨g2, 0, none⟩ = some (.int .i64 z0) ∧ w'.cell? ⟨b, off + 1, none⟩ = some (.int .i64 z0))) (by kernel_rfl) ?qhSs (fun hHeld => ?_)
        case qhSs => exact ⟨n1, n2, n3⟩
        refine wpAnyH_take (i := 0) (oi := { dst := some 124, op := Op.load 3 (Operand.tmp 11), type := 3, pos := "law.go:105", after := #[], guard := none }) (v := ?qv0) rfl (by kernel_rfl) (by kernel_rfl) (by kernel_rfl) (fun _ _ _ h => h) (Or.inl ⟨by rfl, ?qy0⟩) hHeld ?qr0
        case qy0 => (intro w hSw; (try dsimp only at hSw); go_simp; (try with_reducible rfl))
        try simp only [Act.put, List.setIfInBounds_toArray, List.set_cons_zero, List.set_cons_succ]
        refine wpAnyH_ready (rs := [1]) (by kernel_rfl) (by simp) ?_
        refine AllReadyH.cons (o := { dst := some 125, op := Op.call { callee := Callee.value (Operand.func 40), args := #[], argTypes := #[] }, type := 47, pos := "law.go:105", after := #[], guard := none }) rfl (fun K hK => ?_) AllReadyH.nil
        go_simp
        (with_reducible refine (CRO.out _).mono ?_)
        rintro e wx ⟨rfl, k⟩
        show K _ _
        obtain ⟨k, rb⟩ := k
        clear rb
        have lx := L8.out.later k (by first | exact Keeps.refl _ [] | exact (Keeps.refl _ []).drew)
        replace n1 := cell_later n1 k (by first | exact Keeps.refl _ [] | exact (Keeps.refl _ []).drew)
        replace n2 := cell_later n2 k (by first | exact Keeps.refl _ [] | exact (Keeps.refl _ []).drew)
        replace n3 := cell_later n3 k (by first | exact Keeps.refl _ [] | exact (Keeps.refl _ []).drew)
        replace HKE := kept (obj_later HKE.out k (by first | exact Keeps.refl _ [] | exact (Keeps.refl _ []).drew))
        clear k c0 c1 c2 c3 c4 c5 L8
        have L8 := kept lx
        clear lx
        obtain ⟨c0, c1, c2, c3, c4, c5⟩ := L8.out.cells
        clear hHeld
        refine hK.out _ _ ?qhS1 (fun hHeld => ?_)
        case qhS1 => exact ⟨n1, n2, n3⟩
        clear hK K
        try simp only [Act.put, List.setIfInBounds_toArray, List.set_cons_zero, List.set_cons_succ]
        refine wpAnyH_take (i := 2) (oi := { dst := some 126, op := Op.call { callee := Callee.builtin Builtin.len, args := #[Operand.tmp 125], argTypes := #[47] }, type := 3, pos := "law.go:105", after := #[{ on := 1, ground := Ground.data }], guard := none }) (v := ?qv2) rfl (by kernel_rfl) (by kernel_rfl) (by kernel_rfl) (fun _ _ _ h => h) (Or.inl ⟨by rfl, ?qy2⟩) hHeld ?qr2
        case qy2 => (intro w hSw; (try dsimp only at hSw); go_simp; (try with_reducible rfl))
        try simp only [Act.put, List.setIfInBounds_toArray, List.set_cons_zero, List.set_cons_succ]
        refine wpAnyH_take (i := 3) (oi := { dst := some 127, op := Op.binOp BinOp.eql 3 (Operand.tmp 124) (Operand.tmp 126) 3, type := 4, pos := "law.go:105", after := #[{ on := 0, ground := Ground.data }, { on := 2, ground := Ground.data }], guard := none }) (v := ?qv3) rfl (by kernel_rfl) (by kernel_rfl) (by kernel_rfl) (fun _ _ _ h => h) (Or.inl ⟨by rfl, ?qy3⟩) hHeld ?qr3
        case qy3 => (intro w hSw; (try dsimp only at hSw); go_simp; (try with_reducible rfl))
        try simp only [Act.put, List.setIfInBounds_toArray, List.set_cons_zero, List.set_cons_succ]
        refine wpAnyH_take (i := 4) (oi := { dst := some 128, op := Op.move (Operand.tmp 127), type := 4, pos := "law.go:105", after := #[{ on := 3, ground := Ground.data }, { on := 1, ground := Ground.chain }], guard := none }) (v := ?qv4) rfl (by kernel_rfl) (by kernel_rfl) (by kernel_rfl) (fun _ _ _ h => h) (Or.inl ⟨by rfl, ?qy4⟩) hHeld ?qr4
        case qy4 => (intro w hSw; (try dsimp only at hSw); go_simp; (try with_reducible rfl))
        try simp only [Act.put, List.setIfInBounds_toArray, List.set_cons_zero, List.set_cons_succ]
        refine wpAnyH_take (i := 5) (oi := { dst := some 129, op := Op.move (Operand.tmp 14), type := 58, pos := "law.go:105", after := #[{ on := 4, ground := Ground.guard }], guard := some (4, true) }) (v := ?qv5) rfl (by kernel_rfl) (by kernel_rfl) (by kernel_rfl) (fun _ _ _ h => h) (Or.inl ⟨by rfl, ?qy5⟩) hHeld ?qr5
        case qy5 => (intro w hSw; (try dsimp only at hSw); go_simp; (try with_reducible rfl))
        try simp only [Act.put, List.setIfInBounds_toArray, List.set_cons_zero, List.set_cons_succ]
        refine wpAnyH_take (i := 6) (oi := { dst := some 130, op := Op.indexAddr 58 (Operand.tmp 129) (Operand.const (Value.int IntKind.i64 0)), type := 0, pos := "law.go:105", after := #[{ on := 5, ground := Ground.data }, { on := 4, ground := Ground.guard }], guard := some (4, true) }) (v := ?qv6) rfl (by kernel_rfl) (by kernel_rfl) (by kernel_rfl) (fun _ _ _ h => h) (Or.inl ⟨by rfl, ?qy6⟩) hHeld ?qr6
        case qy6 => (intro w hSw; (try dsimp only at hSw); go_simp; (try with_reducible rfl))
        try simp only [Act.put, List.setIfInBounds_toArray, List.set_cons_zero, List.set_cons_succ]
        refine wpAnyH_take (i := 7) (oi := { dst := some 131, op := Op.load 3 (Operand.tmp 130), type := 3, pos := "law.go:105", after := #[{ on := 6, ground := Ground.data }, { on := 4, ground := Ground.guard }], guard := some (4, true) }) (v := ?qv7) rfl (by kernel_rfl) (by kernel_rfl) (by kernel_rfl) (fun _ _ _ h => h) (Or.inl ⟨by rfl, ?qy7⟩) hHeld ?qr7
        case qy7 => (intro w hSw; (try dsimp only at hSw); go_simp; (try with_reducible rfl))
        try simp only [Act.put, List.setIfInBounds_toArray, List.set_cons_zero, List.set_cons_succ]
        refine wpAnyH_take (i := 8) (oi := { dst := some 132, op := Op.move (Operand.tmp 9), type := 58, pos := "law.go:105", after := #[{ on := 4, ground := Ground.guard }], guard := some (4, true) }) (v := ?qv8) rfl (by kernel_rfl) (by kernel_rfl) (by kernel_rfl) (fun _ _ _ h => h) (Or.inl ⟨by rfl, ?qy8⟩) hHeld ?qr8
        case qy8 => (intro w hSw; (try dsimp only at hSw); go_simp; (try with_reducible rfl))
        try simp only [Act.put, List.setIfInBounds_toArray, List.set_cons_zero, List.set_cons_succ]
        refine wpAnyH_take (i := 9) (oi := { dst := some 133, op := Op.indexAddr 58 (Operand.tmp 132) (Operand.const (Value.int IntKind.i64 0)), type := 0, pos := "law.go:105", after := #[{ on := 8, ground := Ground.data }, { on := 4, ground := Ground.guard }], guard := some (4, true) }) (v := ?qv9) rfl (by kernel_rfl) (by kernel_rfl) (by kernel_rfl) (fun _ _ _ h => h) (Or.inl ⟨by rfl, ?qy9⟩) hHeld ?qr9
        case qy9 => (intro w hSw; (try dsimp only at hSw); go_simp; (try with_reducible rfl))
        try simp only [Act.put, List.setIfInBounds_toArray, List.set_cons_zero, List.set_cons_succ]
        refine wpAnyH_take (i := 10) (oi := { dst := some 134, op := Op.load 3 (Operand.tmp 133), type := 3, pos := "law.go:105", after := #[{ on := 9, ground := Ground.data }, { on := 4, ground := Ground.guard }], guard := some (4, true) }) (v := ?qv10) rfl (by kernel_rfl) (by kernel_rfl) (by kernel_rfl) (fun _ _ _ h => h) (Or.inl ⟨by rfl, ?qy10⟩) hHeld ?qr10
        case qy10 => (intro w hSw; (try dsimp only at hSw); go_simp; (try with_reducible rfl))
        try simp only [Act.put, List.setIfInBounds_toArray, List.set_cons_zero, List.set_cons_succ]
        refine wpAnyH_take (i := 11) (oi := { dst := some 135, op := Op.binOp BinOp.eql 3 (Operand.tmp 131) (Operand.tmp 134) 3, type := 4, pos := "law.go:105", after := #[{ on := 7, ground := Ground.data }, { on := 10, ground := Ground.data }, { on := 4, ground := Ground.guard }], guard := some (4, true) }) (v := ?qv11) rfl (by kernel_rfl) (by kernel_rfl) (by kernel_rfl) (fun _ _ _ h => h) (Or.inl ⟨by rfl, ?qy11⟩) hHeld ?qr11
        case qy11 => (intro w hSw; (try dsimp only at hSw); go_simp; (try with_reducible rfl))
        try simp only [Act.put, List.setIfInBounds_toArray, List.set_cons_zero, List.set_cons_succ]
        refine wpAnyH_take (i := 12) (oi := { dst := some 136, op := Op.pick (Operand.tmp 128) (Operand.tmp 135) (Operand.const (Value.bool false)), type := 4, pos := "law.go:105", after := #[{ on := 4, ground := Ground.data }, { on := 11, ground := Ground.data }], guard := none }) (v := ?qv12) rfl (by kernel_rfl) (by kernel_rfl) (by kernel_rfl) (fun _ _ _ h => h) (Or.inl ⟨by rfl, ?qy12⟩) hHeld ?qr12
        case qy12 => (intro w hSw; (try dsimp only at hSw); go_simp; (try with_reducible rfl))
        try simp only [Act.put, List.setIfInBounds_toArray, List.set_cons_zero, List.set_cons_succ]
        refine wpAnyH_ready (rs := [13]) (by kernel_rfl) (by simp) ?_
        refine AllReadyH.cons (o := { dst := none, op := Op.store 4 (Operand.tmp 2) (Operand.tmp 136), type := 0, pos := "law.go:105", after := #[{ on := 12, ground := Ground.data }, { on := 4, ground := Ground.chain }, { on := 0, ground := Ground.phase }, { on := 1, ground := Ground.phase }, { on := 2, ground := Ground.phase }, { on := 3, ground := Ground.phase }, { on := 4, ground := Ground.phase }, { on := 5, ground := Ground.phase }, { on := 6, ground := Ground.phase }, { on := 7, ground := Ground.phase }, { on := 8, ground := Ground.phase }, { on := 9, ground := Ground.phase }, { on := 10, ground := Ground.phase }, { on := 11, ground := Ground.phase }, { on := 12, ground := Ground.phase }], guard := none }) rfl (fun K hK => ?_) AllReadyH.nil
        go_simp
        clear hHeld
        refine hK.out _ _ ?qhS13 (fun hHeld => ?_)
        case qhS13 => exact ⟨cell_set_other HE1.out n1, cell_set_other HE2.out n2, cell_set_other HE3.out n3⟩
        clear hK K
        try simp only [Act.put, List.setIfInBounds_toArray, List.set_cons_zero, List.set_cons_succ]
        refine wpAnyH_done (by kernel_rfl) ?_ _
        refine NoPanic.normal ?_
        go_wp2
        have l9 := L8.out.lay true
        have hK' := (KeepsOthers.setCell wx ⟨w.heap.size + 1, 0, none⟩ (.bool true)).same D _ HKE.out rfl
        refine ⟨by simp, .inl ⟨_, _, rfl, run_takeDeferred hK', ?_⟩⟩
        have hc5 := cell_kept (l9.res.cell 0) (grownBy_putObj' _ D (.deferred none)) (fun r e => by cases e; exact ⟨_, hK', rfl⟩)
        refine ⟨.bool true, ?_, rfl, (l9.keeps.below (Nat.le_refl _) (by simp)).trans (belowK_b (w := w) (Nat.le_refl _) _ D _ _ (by have h1 := HD.out; have h2 := HWR.out; rw [World.size_alloc] at h1; omega) hK' rfl rfl)⟩
        simp [results, Try.f14, go_sem, hc5]
      case stop =>
        rintro D c pre W hD ⟨q, hq, hpre⟩ ⟨rfl, p0, x, hp, hx⟩ hK
        rw [hp] at hpre
        obtain ⟨jj, rfl, rfl, rfl⟩ := opsUpto_inv hpre
        rw [opsUpto_length] at hx
        exact absurd rfl hx

set_option maxRecDepth 100000 in
set_option maxHeartbeats 16000000 in
theorem need_yes6 (dst num : Int) (b off : Nat) (len cap : Nat) (h : 2 ≤ len) (h10 : len ≤ 10) (hc : len ≤ cap) (hm : cap ≤ maxLen) (z : Nat → Int) (w : World) (hz : ∀ i, i < len → w.cell? ⟨b, off + i, none⟩ = some (.int .i64 (z i))) :
    Calls Try.prog 14 #[.agg #[.int .i64 6, .int .i64 dst, .slice (some ⟨b, off, none⟩) len cap, .int .i64 num]] w fun e w' => e = .returned (.bool true) ∧ Below w.heap.size w w' := by
  have hd : decide (10 < (len : Int)) = false := by simp; omega
  have hd2 : decide ((len : Int) < 2) = false := by simp; omega
  have CRO := kept rows_k
  have CN := kept (fun w hz => needs_yes6 dst num b off len cap h hc hm z w hz)
  have HZ := kept hz
  clear hz
  obtain ⟨y, hy⟩ : ∃ y, ktakes 6 = y := ⟨_, rfl⟩
  have hys : y.size = 2 := by rw [← hy]; rfl
  have HK : Hid (kcells[19]? = some (.string y)) := by rw [← hy]; exact (kcell 6 (by decide)).2.1
  clear hy
  have L0 : Hid (LB w ((w.alloc (.cells #[.int .i64 6, .int .i64 dst, .slice (some ⟨b, off, none⟩) len cap, .int .i64 num] 77)).alloc (.cells #[.bool false] 4)) 6 dst num (.slice (some ⟨b, off, none⟩) len cap) false) := LB.start
  refine (callsIn_wide (n := 5)).1 ?_
  refine callsIn_of_wp_marks Try.func14 rfl trivial ?_ rfl
  refine wpIn_wide.2 ?_
  simp only [Try.ntmps14, List.size_toArray, List.length_cons, List.length_nil, Nat.reduceAdd, Nat.reduceSub, Array.replicate_succ, Array.replicate_zero, List.push_toArray, List.append_toArray, List.nil_append, List.cons_append]
  go_wp2_with fail
  generalize (w.alloc (.cells #[.int .i64 6, .int .i64 dst, .slice (some ⟨b, off, none⟩) len cap, .int .i64 num] 77)).alloc (.cells #[.bool false] 4) = W0 at *
  refine (opslives _).mono ?_
  rintro e W1 ⟨rfl, k⟩
  have l1 := L0.out.next k
  clear k L0
  have L1 := kept l1
  clear l1
  obtain ⟨c0, c1, c2, c3, c4, c5⟩ := L1.out.cells

  go_wp2_with fail
  refine (CN.out _ (fun i hi => L1.out.keeps.cellOf (HZ.out i hi))).mono ?_
  rintro e W2 ⟨v, rfl, ho, k⟩
  have hge1 := L1.out.ge
  obtain ⟨ga, ca, rfl, hga, hca, hcells⟩ : ∃ ga ca, v = .slice (some ⟨ga, 0, none⟩) 1 ca ∧ w.heap.size + 2 ≤ ga ∧ 1 ≤ ca ∧ ∃ cur, Blk W2 ga 3 cur ∧ cur.size = ca ∧ cur.toList.take 1 = [.int .i64 (z 1)] := by
    rcases ho.2 with ⟨_, h0⟩ | ⟨g, cp, cur, h1, h2, h3, h4, h5, h6, h7⟩
    · exact absurd h0 (by decide)
    · exact ⟨g, cp, h1, by omega, h4, cur, h3, by simpa using h6, by simpa using h7⟩
  obtain ⟨cur, hcur, hcs, hct⟩ := hcells
  have AR := kept hcur
  have HCT := kept hct
  have HCS := kept hcs
  have HGA := kept hga
  have HCA := kept hca
  have l2 := L1.out.next k
  clear k L1 c0 c1 c2 c3 c4 c5 ho hcur hct hcs hga hca hge1
  have L2 := kept l2
  clear l2
  obtain ⟨c0, c1, c2, c3, c4, c5⟩ := L2.out.cells
  have MB := kept (World.alloc_heap_new W2 (.map #[] 0))
  have l3 := L2.out.next ((Keeps.refl W2 []).alloc (.map #[] 0))
  have ar := AR.out.keep ((Keeps.refl W2 []).alloc (.map #[] 0)) (by simp)
  have HG := kept L2.out.ge
  have HNE : Hid (ga ≠ W2.heap.size) := fun e => by have := AR.out.lt; omega
  clear L2 AR c0 c1 c2 c3 c4 c5
  have L3 := kept l3
  have AR := kept ar
  clear l3 ar
  have hmm := @run_makeMap Try.prog
  generalize hgm : W2.heap.size = gm at *
  go_upto_region 5 with (refine wpList_put _ rfl _ _ _ rfl gm _ _ _ _ rfl rfl rfl MB.out (by rfl) ?_; intro W3 mb km; replace L3 := kept (L3.out.nextB km HG.out); replace AR := kept (AR.out.keep km (by simp; exact HNE.out)); replace MB := kept mb; clear mb km)
  have hl := run_look _ _ _ _ MB.out 6 (some (1, .int .i64 20)) (by rfl)
  obtain ⟨c0, c1, c2, c3, c4, c5⟩ := L3.out.cells
  go_wp2_with fail
  clear hl MB hmm
  refine wp_region_noPanic ?_
  refine wp_region_held_drew (S := (fun w' => w'.cell? ⟨w.heap.size, 0, none⟩ = some (.int .i64 6) ∧ w'.cell? ⟨w.heap.size, 2, none⟩ = some (.slice (some ⟨b, off, none⟩) len cap))) (by kernel_rfl) ?hSs (fun hHeld => ?_)
  case hSs => exact ⟨c0, c2⟩
  refine wpAnyH_take (i := 0) (oi := { dst := some 40, op := Op.move (Operand.tmp 8), type := 4, pos := "law.go:76", after := #[], guard := none }) (v := ?v0) rfl (by kernel_rfl) (by kernel_rfl) (by kernel_rfl) (fun _ _ _ h => h) (Or.inl ⟨by rfl, ?y0⟩) hHeld ?r0
  case y0 => (intro w hSw; (try dsimp only at hSw); go_simp; (try with_reducible rfl))
  try simp only [Act.put, List.setIfInBounds_toArray, List.set_cons_zero, List.set_cons_succ]
  refine wpAnyH_take (i := 1) (oi := { dst := some 41, op := Op.unOp UnOp.not 4 (Operand.tmp 40), type := 4, pos := "law.go:76", after := #[{ on := 0, ground := Ground.data }], guard := none }) (v := ?v1) rfl (by kernel_rfl) (by kernel_rfl) (by kernel_rfl) (fun _ _ _ h => h) (Or.inl ⟨by rfl, ?y1⟩) hHeld ?r1
  case y1 => (intro w hSw; (try dsimp only at hSw); go_simp; (try with_reducible rfl))
  try simp only [Act.put, List.setIfInBounds_toArray, List.set_cons_zero, List.set_cons_succ]
  refine wpAnyH_take (i := 2) (oi := { dst := some 42, op := Op.move (Operand.tmp 41), type := 4, pos := "law.go:76", after := #[{ on := 1, ground := Ground.data }], guard := none }) (v := ?v2) rfl (by kernel_rfl) (by kernel_rfl) (by kernel_rfl) (fun _ _ _ h => h) (Or.inl ⟨by rfl, ?y2⟩) hHeld ?r2
  case y2 => (intro w hSw; (try dsimp only at hSw); go_simp; (try with_reducible rfl))
  try simp only [Act.put, List.setIfInBounds_toArray, List.set_cons_zero, List.set_cons_succ]
  refine wpAnyH_take (i := 3) (oi := { dst := some 43, op := Op.fieldAddr 77 (Operand.tmp 1) 2, type := 0, pos := "law.go:76", after := #[{ on := 2, ground := Ground.guard }], guard := some (2, false) }) (v := ?v3) rfl (by kernel_rfl) (by kernel_rfl) (by kernel_rfl) (fun _ _ _ h => h) (Or.inl ⟨by rfl, ?y3⟩) hHeld ?r3
  case y3 => (intro w hSw; (try dsimp only at hSw); go_simp; (try with_reducible rfl))
  try simp only [Act.put, List.setIfInBounds_toArray, List.set_cons_zero, List.set_cons_succ]
  refine wpAnyH_take (i := 4) (oi := { dst := some 44, op := Op.load 58 (Operand.tmp 43), type := 58, pos := "law.go:76", after := #[{ on := 3, ground := Ground.data }, { on := 2, ground := Ground.guard }], guard := some (2, false) }) (v := ?v4) rfl (by kernel_rfl) (by kernel_rfl) (by kernel_rfl) (fun _ _ _ h => h) (Or.inl ⟨by rfl, ?y4⟩) hHeld ?r4
  case y4 => (intro w hSw; (try dsimp only at hSw); go_simp; (try with_reducible rfl))
  try simp only [Act.put, List.setIfInBounds_toArray, List.set_cons_zero, List.set_cons_succ]
  refine wpAnyH_take (i := 5) (oi := { dst := some 45, op := Op.call { callee := Callee.builtin Builtin.len, args := #[Operand.tmp 44], argTypes := #[58] }, type := 3, pos := "law.go:76", after := #[{ on := 4, ground := Ground.data }, { on := 2, ground := Ground.guard }], guard := some (2, false) }) (v := ?v5) rfl (by kernel_rfl) (by kernel_rfl) (by kernel_rfl) (fun _ _ _ h => h) (Or.inl ⟨by rfl, ?y5⟩) hHeld ?r5
  case y5 => (intro w hSw; (try dsimp only at hSw); go_simp; (try with_reducible rfl))
  try simp only [Act.put, List.setIfInBounds_toArray, List.set_cons_zero, List.set_cons_succ]
  refine wpAnyH_take (i := 7) (oi := { dst := some 47, op := Op.fieldAddr 77 (Operand.tmp 1) 0, type := 0, pos := "law.go:76", after := #[{ on := 2, ground := Ground.guard }], guard := some (2, false) }) (v := ?v7) rfl (by kernel_rfl) (by kernel_rfl) (by kernel_rfl) (fun _ _ _ h => h) (Or.inl ⟨by rfl, ?y7⟩) hHeld ?r7
  case y7 => (intro w hSw; (try dsimp only at hSw); go_simp; (try with_reducible rfl))
  try simp only [Act.put, List.setIfInBounds_toArray, List.set_cons_zero, List.set_cons_succ]
  refine wpAnyH_take (i := 8) (oi := { dst := some 48, op := Op.load 44 (Operand.tmp 47), type := 44, pos := "law.go:76", after := #[{ on := 7, ground := Ground.data }, { on := 2, ground := Ground.guard }], guard := some (2, false) }) (v := ?v8) rfl (by kernel_rfl) (by kernel_rfl) (by kernel_rfl) (fun _ _ _ h => h) (Or.inl ⟨by rfl, ?y8⟩) hHeld ?r8
  case y8 => (intro w hSw; (try dsimp only at hSw); go_simp; (try with_reducible rfl))
  try simp only [Act.put, List.setIfInBounds_toArray, List.set_cons_zero, List.set_cons_succ]
  refine wpAnyH_ready (rs := [6]) (by kernel_rfl) (by simp) ?_
  refine AllReadyH.cons (o := { dst := some 46, op := Op.call { callee := Callee.value (Operand.func 40), args := #[], argTypes := #[] }, type := 47, pos := "law.go:76", after := #[{ on := 2, ground := Ground.chain }, { on := 2, ground := Ground.guard }], guard := some (2, false) }) rfl (fun K hK => ?_) AllReadyH.nil
  go_simp
  (with_reducible refine (CRO.out _).mono ?_)
  rintro e wx ⟨rfl, k⟩
  show K _ _
  obtain ⟨k, rb⟩ := k
  have r1 : wx.cell? ⟨W3.heap.size, 19, none⟩ = some (.string y) := (rb.cell 19).trans HK.out
  clear rb
  have lx := L3.out.later k (by first | exact Keeps.refl _ [] | exact (Keeps.refl _ []).drew)
  have ar := blk_later AR.out k (by first | exact Keeps.refl _ [] | exact (Keeps.refl _ []).drew)
  clear k c0 c1 c2 c3 c4 c5 L3 AR
  obtain ⟨c0, c1, c2, c3, c4, c5⟩ := lx.cells
  have L3 := kept lx
  have AR := kept ar
  clear lx ar
  clear hHeld
  refine hK.out _ _ ?hS6 (fun hHeld => ?_)
  case hS6 => exact ⟨c0, c2⟩
  clear hK K
  try simp only [Act.put, List.setIfInBounds_toArray, List.set_cons_zero, List.set_cons_succ]
  refine wpAnyH_take (i := 9) (oi := { dst := some 49, op := Op.indexAddr 47 (Operand.tmp 46) (Operand.tmp 48), type := 0, pos := "law.go:76", after := #[{ on := 6, ground := Ground.data }, { on := 8, ground := Ground.data }, { on := 2, ground := Ground.guard }], guard := some (2, false) }) (v := ?v9) rfl (by kernel_rfl) (by kernel_rfl) (by kernel_rfl) (fun _ _ _ h => h) (Or.inl ⟨by rfl, ?y9⟩) hHeld ?r9
  case y9 => (intro w hSw; (try dsimp only at hSw); go_simp; (try with_reducible rfl))
  try simp only [Act.put, List.setIfInBounds_toArray, List.set_cons_zero, List.set_cons_succ]
  refine wpAnyH_take (i := 10) (oi := { dst := some 50, op := Op.fieldAddr 50 (Operand.tmp 49) 1, type := 0, pos := "law.go:76", after := #[{ on := 9, ground := Ground.data }, { on := 2, ground := Ground.guard }], guard := some (2, false) }) (v := ?v10) rfl (by kernel_rfl) (by kernel_rfl) (by kernel_rfl) (fun _ _ _ h => h) (Or.inl ⟨by rfl, ?y10⟩) hHeld ?r10
  case y10 => (intro w hSw; (try dsimp only at hSw); go_simp; (try with_reducible rfl))
  try simp only [Act.put, List.setIfInBounds_toArray, List.set_cons_zero, List.set_cons_succ]
  refine wpAnyH_ready (rs := [11]) (by kernel_rfl) (by simp) ?_
  refine AllReadyH.cons (o := { dst := some 51, op := Op.load 9 (Operand.tmp 50), type := 9, pos := "law.go:76", after := #[{ on := 10, ground := Ground.data }, { on := 2, ground := Ground.guard }], guard := some (2, false) }) rfl (fun K hK => ?_) AllReadyH.nil
  go_simp
  clear hHeld
  refine hK.out _ _ ?hS11 (fun hHeld => ?_)
  case hS11 => exact ⟨c0, c2⟩
  clear hK K
  try simp only [Act.put, List.setIfInBounds_toArray, List.set_cons_zero, List.set_cons_succ]
  refine wpAnyH_take (i := 12) (oi := { dst := some 52, op := Op.call { callee := Callee.builtin Builtin.len, args := #[Operand.tmp 51], argTypes := #[9] }, type := 3, pos := "law.go:76", after := #[{ on := 11, ground := Ground.data }, { on := 2, ground := Ground.guard }], guard := some (2, false) }) (v := ?v12) rfl (by kernel_rfl) (by kernel_rfl) (by kernel_rfl) (fun _ _ _ h => h) (Or.inl ⟨by rfl, ?y12⟩) hHeld ?r12
  case y12 => (intro w hSw; (try dsimp only at hSw); go_simp; (try with_reducible rfl))
  try simp only [Act.put, List.setIfInBounds_toArray, List.set_cons_zero, List.set_cons_succ]
  refine wpAnyH_take (i := 13) (oi := { dst := some 53, op := Op.binOp BinOp.lss 3 (Operand.tmp 45) (Operand.tmp 52) 3, type := 4, pos := "law.go:76", after := #[{ on := 5, ground := Ground.data }, { on := 12, ground := Ground.data }, { on := 2, ground := Ground.guard }], guard := some (2, false) }) (v := ?v13) rfl (by kernel_rfl) (by kernel_rfl) (by kernel_rfl) (fun _ _ _ h => h) (Or.inl ⟨by rfl, ?y13⟩) hHeld ?r13
  case y13 => (intro w hSw; (try dsimp only at hSw); go_simp; (try with_reducible rfl))
  try simp only [Act.put, List.setIfInBounds_toArray, List.set_cons_zero, List.set_cons_succ]
  refine wpAnyH_take (i := 14) (oi := { dst := some 54, op := Op.pick (Operand.tmp 42) (Operand.const (Value.bool true)) (Operand.tmp 53), type := 4, pos := "law.go:76", after := #[{ on := 2, ground := Ground.data }, { on := 13, ground := Ground.data }], guard := none }) (v := ?v14) rfl (by kernel_rfl) (by kernel_rfl) (by kernel_rfl) (fun _ _ _ h => h) (Or.inl ⟨by rfl, ?y14⟩) hHeld ?r14
  case y14 => (intro w hSw; (try dsimp only at hSw); go_simp; (try with_reducible rfl))
  try simp only [Act.put, List.setIfInBounds_toArray, List.set_cons_zero, List.set_cons_succ]
  refine wpAnyH_done (by kernel_rfl) ?_ _
  refine NoPanic.normal ?_
  have RZ : Hid (Rz w wx ga ca 1 1 0 z 6 dst num (.slice (some ⟨b, off, none⟩) len cap)) := ⟨L3.out, cur, AR.out, HCS.out, fun i hi => by
    have hg : (cur.toList.take 1)[i]? = cur.toList[i]? := by rw [List.getElem?_take, if_pos hi]
    rw [if_neg (Nat.not_lt_zero _), ← Array.getElem?_toList, ← hg, HCT.out]
    match i, hi with
    | 0, _ => rfl
    | n + 1, h => exact absurd h (by omega)⟩
  clear L3 AR HCT HCS c0 c1 c2 c3 c4 c5
  go_wp2
  go_loopw [92] (fun i wr => ∃ j : Nat, j ≤ 1 ∧ i = .int .i64 j ∧ Rz w wr ga ca 1 1 j z 6 dst num (.slice (some ⟨b, off, none⟩) len cap)) (fun i _ => 1 - (intOf i).toNat)
  case atStart => exact ⟨0, by omega, rfl, RZ.out⟩
  case round =>
    obtain ⟨j, hj, rfl, hR⟩ := hrel
    have RZ := kept hR
    clear hR
    by_cases hlt : j < 1
    · obtain ⟨a0, a1⟩ := RZ.out.at hlt
      have a2 : wr.cell? ⟨b, off + 1 + j, none⟩ = some (.int .i64 (z (1 + j))) := by
        have := RZ.out.lb.keeps.cellOf (HZ.out (1 + j) (by omega))
        simpa [Nat.add_assoc] using this
      generalize hzj : z (1 + j) = zj at *
      have HZJ := kept hzj
      clear hzj
      go_wp2
      go_quiet (fail)
      have rz := RZ.out.step hlt HCA.out HGA.out ((Keeps.refl wr []).drewN nq)
      rw [HZJ.out] at rz
      go_wp2
      go_roundw
      case rel => exact ⟨j + 1, by omega, by go_num, rz⟩
      case measure => simp [intOf]; omega
    · obtain rfl : j = 1 := by omega
      clear hj hlt
      obtain ⟨c0, c1, c2, c3, c4, c5⟩ := RZ.out.lb.cells
      go_wp2_with fail
      refine (all60 _).mono ?_
      rintro e w6 ⟨rfl, rfl⟩
      have hn0 := cell_new_l wr (.int .i64 0) 3
      go_wp2_with fail
      refine (wpIn_wide (n := 5)).1 ?_
      refine' wpIn_rangeFunc_ownF rfl (by decide) (gf := 92) (lb := #[]) rfl trivial (enters_of Try.func92 (by kernel_rfl) rfl)
        (all_stops Fence.wide 4 trivial rfl (by decide) wr.heap.size _) belowK_t (belowK_b (by simp)) (Below.refl _ _) (fun _ => rfl)
        (fun pre W => (W.cell? ⟨wr.heap.size, 0, none⟩ = some (.int .i64 pre.length) ∧ W.frozen? ⟨wr.heap.size, 0, none⟩ = false) ∧ Below wr.heap.size (wr.alloc (.cells #[.int .i64 0] 3)) W)
        (fun c pre W => c = .ret ∧ ∃ p0 x, pre = p0 ++ [x] ∧ x ≠ (p0.length : Int))
        (OwnFrom.and (Own.from (fun s A B row hs hg hr => ⟨cell_kept hs.1 hg hr, (frozen_kept hs.1 hg hr).trans hs.2⟩) _) (ownFrom_below (by simp) (by simp)))
        (fun c => Own.from (fun s A B row hs hg hr => hs) _)
        ⟨hn0, Below.refl _ _⟩ _ ?assign ?body ?done ?stop
      case assign =>
        intro l x W K hK
        gi_wp2
        exact hK
      case body =>
        rintro l pre x W ⟨⟨hn1, hn2⟩, hBW⟩ _
        have hWsz := hBW.size
        have hr1 : W.cell? ⟨w.heap.size + 1, 0, none⟩ = some (.bool false) := by
          have hlt := RZ.out.lb.res.lt
          have h1 := hBW.block (w.heap.size + 1) hlt
          have h2 : (wr.alloc (.cells #[.int .i64 0] 3)).heap[w.heap.size + 1]? = wr.heap[w.heap.size + 1]? := Below.heap_alloc wr _ _ hlt
          rw [← c4]; simp only [World.cell?]; rw [h1, h2]
        have hr2 : W.frozen? ⟨w.heap.size + 1, 0, none⟩ = false := by
          have hlt := RZ.out.lb.res.lt
          have h1 := hBW.block (w.heap.size + 1) hlt
          have h2 : (wr.alloc (.cells #[.int .i64 0] 3)).heap[w.heap.size + 1]? = wr.heap[w.heap.size + 1]? := Below.heap_alloc wr _ _ hlt
          rw [← c5]; simp only [World.frozen?]; rw [h1, h2]
        by_cases hx : x = (pre.length : Int)
        · have hb : (x != (pre.length : Int)) = false := by simp [hx]
          have HX := kept hx
          clear hx
          gi_wp2
          have el : (((pre ++ [x]).length : Nat) : Int) = (pre.length : Int) + 1 := by simp
          exact ⟨KeepsOthers.setCell _ _ _, (Below.refl wr.heap.size W).setCell (p := ⟨wr.heap.size, 0, none⟩) (Nat.le_refl _) _, ⟨by rw [el]; exact World.cell?_setCell_same' _ _ _ (by rw [hn1]; rfl), by rw [World.frozen?_setCell]; exact hn2⟩, hBW.setCell (p := ⟨wr.heap.size, 0, none⟩) (Nat.le_refl _) _⟩
        · have hb : (x != (pre.length : Int)) = true := by simp [hx]
          have HX := kept hx
          clear hx
          gi_wp2
          exact ⟨KeepsOthers.setCell _ _ _, rfl, pre, x, rfl, HX.out⟩
      case done =>
        rintro D ys W hD rfl ⟨⟨hn1, hn2⟩, hBW⟩ hK
        have k6 : Keeps wr W [] := ⟨hBW.os, hBW.tape, hBW.output, Nat.le_trans (by simp) hBW.size, fun i hi _ => (hBW.block i hi).trans (Below.heap_alloc wr _ i hi)⟩
        have hn : W.cell? ⟨wr.heap.size, 0, none⟩ = some (.int .i64 27) := by rw [opsUpto_length] at hn1; exact hn1
        have HD := kept hD
        have HWR := kept (show w.heap.size + 1 < wr.heap.size from RZ.out.lb.res.lt)
        have l7 := RZ.out.lb.next k6
        have r7 : W.heap.size ≥ wr.heap.size := k6.size
        have HW7 := kept r7
        clear hn1 hn2 hBW k6 RZ c0 c1 c2 c3 c4 c5 hn0 hD r7
        have L7 := kept l7
        clear l7
        have HKD := kept hK
        clear hK
        obtain ⟨c0, c1, c2, c3, c4, c5⟩ := L7.out.cells
        go_wp2_with fail
        refine (CN.out _ (fun i hi => L7.out.keeps.cellOf (HZ.out i hi))).mono ?_
        rintro e W8 ⟨v2, rfl, ho, k⟩
        obtain ⟨g2, cb, rfl, hg2, hcell2⟩ : ∃ g2 cb, v2 = .slice (some ⟨g2, 0, none⟩) 1 cb ∧ W.heap.size ≤ g2 ∧ W8.cell? ⟨g2, 0, none⟩ = some (.int .i64 (z 1)) := by
          rcases ho.2 with ⟨_, h0⟩ | ⟨g, cp, cur2, h1, h2, h3, h4, h5, h6, h7⟩
          · exact absurd h0 (by decide)
          · refine ⟨g, cp, h1, h2, ?_⟩
            have hb2 : Blk W8 g 3 cur2 := h3
            rw [hb2.cell 0]
            have e1 : (cur2.toList.take (1 * 1))[0]? = cur2.toList[0]? := by rw [List.getElem?_take, if_pos (by decide)]
            rw [← Array.getElem?_toList, ← e1, h7]
            rfl
        have l8 := L7.out.next k
        have n1 := k.cellOf hn
        have n2 := hcell2
        have n3 : W8.cell? ⟨b, off + 1, none⟩ = some (.int .i64 (z 1)) := l8.keeps.cellOf (HZ.out 1 (by omega))
        have HKE := kept (obj_keep HKD.out k)
        have HE1 : Hid (wr.heap.size ≠ w.heap.size + 1) := fun e => by have := HWR.out; omega
        have HE2 : Hid (g2 ≠ w.heap.size + 1) := fun e => by have := HWR.out; have := HW7.out; omega
        have HE3 : Hid (b ≠ w.heap.size + 1) := fun e => by
          have := World.block_lt_of_cell? w _ (HZ.out 1 (by omega))
          simp at this
          omega
        clear k L7 c0 c1 c2 c3 c4 c5 ho hn hcell2 hg2 HKD
        have L8 := kept l8
        clear l8
        obtain ⟨c0, c1, c2, c3, c4, c5⟩ := L8.out.cells
        generalize z 1 = z0 at *
        go_wp2_with fail
        refine wp_region_noPanic ?_
        refine wp_region_held_drew (S := (fun w' => w'.cell? ⟨wr.heap.size, 0, none⟩ = some (.int .i64 27) ∧ w'.cell? ⟨g2, 0, none⟩ = some (.int .i64 z0) ∧ w'.cell? ⟨b, off + 1, none⟩ = some (.int .i64 z0))) (by kernel_rfl) ?qhSs (fun hHeld => ?_)
        case qhSs => exact ⟨n1, n2, n3⟩
        refine wpAnyH_take (i := 0) (oi := { dst := some 124, op := Op.load 3 (Operand.tmp 11), type := 3, pos := "law.go:105", after := #[], guard := none }) (v := ?qv0) rfl (by kernel_rfl) (by kernel_rfl) (by kernel_rfl) (fun _ _ _ h => h) (Or.inl ⟨by rfl, ?qy0⟩) hHeld ?qr0
        case qy0 => (intro w hSw; (try dsimp only at hSw); go_simp; (try with_reducible rfl))
        try simp only [Act.put, List.setIfInBounds_toArray, List.set_cons_zero, List.set_cons_succ]
        refine wpAnyH_ready (rs := [1]) (by kernel_rfl) (by simp) ?_
        refine AllReadyH.cons (o := { dst := some 125, op := Op.call { callee := Callee.value (Operand.func 40), args := #[], argTypes := #[] }, type := 47, pos := "law.go:105", after := #[], guard := none }) rfl (fun K hK => ?_) AllReadyH.nil
        go_simp
        (with_reducible refine (CRO.out _).mono ?_)
        rintro e wx ⟨rfl, k⟩
        show K _ _
        obtain ⟨k, rb⟩ := k
        clear rb
        have lx := L8.out.later k (by first | exact Keeps.refl _ [] | exact (Keeps.refl _ []).drew)
        replace n1 := cell_later n1 k (by first | exact Keeps.refl _ [] | exact (Keeps.refl _ []).drew)
        replace n2 := cell_later n2 k (by first | exact Keeps.refl _ [] | exact (Keeps.refl _ []).drew)
        replace n3 := cell_later n3 k (by first | exact Keeps.refl _ [] | exact (Keeps.refl _ []).drew)
        replace HKE := kept (obj_later HKE.out k (by first | exact Keeps.refl _ [] | exact (Keeps.refl _ []).drew))
        clear k c0 c1 c2 c3 c4 c5 L8
        have L8 := kept lx
        clear lx
        obtain ⟨c0, c1, c2, c3, c4, c5⟩ := L8.out.cells
        clear hHeld
        refine hK.out _ _ ?qhS1 (fun hHeld => ?_)
        case qhS1 => exact ⟨n1, n2, n3⟩
        clear hK K
        try simp only [Act.put, List.setIfInBounds_toArray, List.set_cons_zero, List.set_cons_succ]
        refine wpAnyH_take (i := 2) (oi := { dst := some 126, op := Op.call { callee := Callee.builtin Builtin.len, args := #[Operand.tmp 125], argTypes := #[47] }, type := 3, pos := "law.go:105", after := #[{ on := 1, ground := Ground.data }], guard := none }) (v := ?qv2) rfl (by kernel_rfl) (by kernel_rfl) (by kernel_rfl) (fun _ _ _ h => h) (Or.inl ⟨by rfl, ?qy2⟩) hHeld ?qr2
        case qy2 => (intro w hSw; (try dsimp only at hSw); go_simp; (try with_reducible rfl))
        try simp only [Act.put, List.setIfInBounds_toArray, List.set_cons_zero, List.set_cons_succ]
        refine wpAnyH_take (i := 3) (oi := { dst := some 127, op := Op.binOp BinOp.eql 3 (Operand.tmp 124) (Operand.tmp 126) 3, type := 4, pos := "law.go:105", after := #[{ on := 0, ground := Ground.data }, { on := 2, ground := Ground.data }], guard := none }) (v := ?qv3) rfl (by kernel_rfl) (by kernel_rfl) (by kernel_rfl) (fun _ _ _ h => h) (Or.inl ⟨by rfl, ?qy3⟩) hHeld ?qr3
        case qy3 => (intro w hSw; (try dsimp only at hSw); go_simp; (try with_reducible rfl))
        try simp only [Act.put, List.setIfInBounds_toArray, List.set_cons_zero, List.set_cons_succ]
        refine wpAnyH_take (i := 4) (oi := { dst := some 128, op := Op.move (Operand.tmp 127), type := 4, pos := "law.go:105", after := #[{ on := 3, ground := Ground.data }, { on := 1, ground := Ground.chain }], guard := none }) (v := ?qv4) rfl (by kernel_rfl) (by kernel_rfl) (by kernel_rfl) (fun _ _ _ h => h) (Or.inl ⟨by rfl, ?qy4⟩) hHeld ?qr4
        case qy4 => (intro w hSw; (try dsimp only at hSw); go_simp; (try with_reducible rfl))
        try simp only [Act.put, List.setIfInBounds_toArray, List.set_cons_zero, List.set_cons_succ]
        refine wpAnyH_take (i := 5) (oi := { dst := some 129, op := Op.move (Operand.tmp 14), type := 58, pos := "law.go:105", after := #[{ on := 4, ground := Ground.guard }], guard := some (4, true) }) (v := ?qv5) rfl (by kernel_rfl) (by kernel_rfl) (by kernel_rfl) (fun _ _ _ h => h) (Or.inl ⟨by rfl, ?qy5⟩) hHeld ?qr5
        case qy5 => (intro w hSw; (try dsimp only at hSw); go_simp; (try with_reducible rfl))
        try simp only [Act.put, List.setIfInBounds_toArray, List.set_cons_zero, List.set_cons_succ]
        refine wpAnyH_take (i := 6) (oi := { dst := some 130, op := Op.indexAddr 58 (Operand.tmp 129) (Operand.const (Value.int IntKind.i64 0)), type := 0, pos := "law.go:105", after := #[{ on := 5, ground := Ground.data }, { on := 4, ground := Ground.guard }], guard := some (4, true) }) (v := ?qv6) rfl (by kernel_rfl) (by kernel_rfl) (by kernel_rfl) (fun _ _ _ h => h) (Or.inl ⟨by rfl, ?qy6⟩) hHeld ?qr6
        case qy6 => (intro w hSw; (try dsimp only at hSw); go_simp; (try with_reducible rfl))
        try simp only [Act.put, List.setIfInBounds_toArray, List.set_cons_zero, List.set_cons_succ]
        refine wpAnyH_take (i := 7) (oi := { dst := some 131, op := Op.load 3 (Operand.tmp 130), type := 3, pos := "law.go:105", after := #[{ on := 6, ground := Ground.data }, { on := 4, ground := Ground.guard }], guard := some (4, true) }) (v := ?qv7) rfl (by kernel_rfl) (by kernel_rfl) (by kernel_rfl) (fun _ _ _ h => h) (Or.inl ⟨by rfl, ?qy7⟩) hHeld ?qr7
        case qy7 => (intro w hSw; (try dsimp only at hSw); go_simp; (try with_reducible rfl))
        try simp only [Act.put, List.setIfInBounds_toArray, List.set_cons_zero, List.set_cons_succ]
        refine wpAnyH_take (i := 8) (oi := { dst := some 132, op := Op.move (Operand.tmp 9), type := 58, pos := "law.go:105", after := #[{ on := 4, ground := Ground.guard }], guard := some (4, true) }) (v := ?qv8) rfl (by kernel_rfl) (by kernel_rfl) (by kernel_rfl) (fun _ _ _ h => h) (Or.inl ⟨by rfl, ?qy8⟩) hHeld ?qr8
        case qy8 => (intro w hSw; (try dsimp only at hSw); go_simp; (try with_reducible rfl))
        try simp only [Act.put, List.setIfInBounds_toArray, List.set_cons_zero, List.set_cons_succ]
        refine wpAnyH_take (i := 9) (oi := { dst := some 133, op := Op.indexAddr 58 (Operand.tmp 132) (Operand.const (Value.int IntKind.i64 0)), type := 0, pos := "law.go:105", after := #[{ on := 8, ground := Ground.data }, { on := 4, ground := Ground.guard }], guard := some (4, true) }) (v := ?qv9) rfl (by kernel_rfl) (by kernel_rfl) (by kernel_rfl) (fun _ _ _ h => h) (Or.inl ⟨by rfl, ?qy9⟩) hHeld ?qr9
        case qy9 => (intro w hSw; (try dsimp only at hSw); go_simp; (try with_reducible rfl))
        try simp only [Act.put, List.setIfInBounds_toArray, List.set_cons_zero, List.set_cons_succ]
        refine wpAnyH_take (i := 10) (oi := { dst := some 134, op := Op.load 3 (Operand.tmp 133), type := 3, pos := "law.go:105", after := #[{ on := 9, ground := Ground.data }, { on := 4, ground := Ground.guard }], guard := some (4, true) }) (v := ?qv10) rfl (by kernel_rfl) (by kernel_rfl) (by kernel_rfl) (fun _ _ _ h => h) (Or.inl ⟨by rfl, ?qy10⟩) hHeld ?qr10
        case qy10 => (intro w hSw; (try dsimp only at hSw); go_simp; (try with_reducible rfl))
        try simp only [Act.put, List.setIfInBounds_toArray, List.set_cons_zero, List.set_cons_succ]
        refine wpAnyH_take (i := 11) (oi := { dst := some 135, op := Op.binOp BinOp.eql 3 (Operand.tmp 131) (Operand.tmp 134) 3, type := 4, pos := "law.go:105", after := #[{ on := 7, ground := Ground.data }, { on := 10, ground := Ground.data }, { on := 4, ground := Ground.guard }], guard := some (4, true) }) (v := ?qv11) rfl (by kernel_rfl) (by kernel_rfl) (by kernel_rfl) (fun _ _ _ h => h) (Or.inl ⟨by rfl, ?qy11⟩) hHeld ?qr11
        case qy11 => (intro w hSw; (try dsimp only at hSw); go_simp; (try with_reducible rfl))
        try simp only [Act.put, List.setIfInBounds_toArray, List.set_cons_zero, List.set_cons_succ]
        refine wpAnyH_take (i := 12) (oi := { dst := some 136, op := Op.pick (Operand.tmp 128) (Operand.tmp 135) (Operand.const (Value.bool false)), type := 4, pos := "law.go:105", after := #[{ on := 4, ground := Ground.data }, { on := 11, ground := Ground.data }], guard := none }) (v := ?qv12) rfl (by kernel_rfl) (by kernel_rfl) (by kernel_rfl) (fun _ _ _ h => h) (Or.inl ⟨by rfl, ?qy12⟩) hHeld ?qr12
        case qy12 => (intro w hSw; (try dsimp only at hSw); go_simp; (try with_reducible rfl))
        try simp only [Act.put, List.setIfInBounds_toArray, List.set_cons_zero, List.set_cons_succ]
        refine wpAnyH_ready (rs := [13]) (by kernel_rfl) (by simp) ?_
        refine AllReadyH.cons (o := { dst := none, op := Op.store 4 (Operand.tmp 2) (Operand.tmp 136), type := 0, pos := "law.go:105", after := #[{ on := 12, ground := Ground.data }, { on := 4, ground := Ground.chain }, { on := 0, ground := Ground.phase }, { on := 1, ground := Ground.phase }, { on := 2, ground := Ground.phase }, { on := 3, ground := Ground.phase }, { on := 4, ground := Ground.phase }, { on := 5, ground := Ground.phase }, { on := 6, ground := Ground.phase }, { on := 7, ground := Ground.phase }, { on := 8, ground := Ground.phase }, { on := 9, ground := Ground.phase }, { on := 10, ground := Ground.phase }, { on := 11, ground := Ground.phase }, { on := 12, ground := Ground.phase }], guard := none }) rfl (fun K hK => ?_) AllReadyH.nil
        go_simp
        clear hHeld
        refine hK.out _ _ ?qhS13 (fun hHeld => ?_)
        case qhS13 => exact ⟨cell_set_other HE1.out n1, cell_set_other HE2.out n2, cell_set_other HE3.out n3⟩
        clear hK K
        try simp only [Act.put, List.setIfInBounds_toArray, List.set_cons_zero, List.set_cons_succ]
        refine wpAnyH_done (by kernel_rfl) ?_ _
        refine NoPanic.normal ?_
        go_wp2
        have l9 := L8.out.lay true
        have hK' := (KeepsOthers.setCell wx ⟨w.heap.size + 1, 0, none⟩ (.bool true)).same D _ HKE.out rfl
        refine ⟨by simp, .inl ⟨_, _, rfl, run_takeDeferred hK', ?_⟩⟩
        have hc5 := cell_kept (l9.res.cell 0) (grownBy_putObj' _ D (.deferred none)) (fun r e => by cases e; exact ⟨_, hK', rfl⟩)
        refine ⟨.bool true, ?_, rfl, (l9.keeps.below (Nat.le_refl _) (by simp)).trans (belowK_b (w := w) (Nat.le_refl _) _ D _ _ (by have h1 := HD.out; have h2 := HWR.out; rw [World.size_alloc] at h1; omega) hK' rfl rfl)⟩
        simp [results, Try.f14, go_sem, hc5]
      case stop =>
        rintro D c pre W hD ⟨q, hq, hpre⟩ ⟨rfl, p0, x, hp, hx⟩ hK
        rw [hp] at hpre
        obtain ⟨jj, rfl, rfl, rfl⟩ := opsUpto_inv hpre
        rw [opsUpto_length] at hx
        exact absurd rfl hx

set_option maxRecDepth 100000 in
set_option maxHeartbeats 16000000 in
theorem need_yes12 (dst num : Int) (b off : Nat) (len cap : Nat) (h : 1 ≤ len) (h10 : len ≤ 10) (hc : len ≤ cap) (hm : cap ≤ maxLen) (z : Nat → Int) (w : World) (hz : ∀ i, i < len → w.cell? ⟨b, off + i, none⟩ = some (.int .i64 (z i))) :
    Calls Try.prog 14 #[.agg #[.int .i64 12, .int .i64 dst, .slice (some ⟨b, off, none⟩) len cap, .int .i64 num]] w fun e w' => e = .returned (.bool true) ∧ Below w.heap.size w w' := by
  have hd : decide (10 < (len : Int)) = false := by simp; omega
  have hd2 : decide ((len : Int) < 1) = false := by simp; omega
  have CRO := kept rows_k
  have CN := kept (fun w hz => needs_yes12 dst num b off len cap h hc hm z w hz)
  have HZ := kept hz
  clear hz
  obtain ⟨y, hy⟩ : ∃ y, ktakes 12 = y := ⟨_, rfl⟩
  have hys : y.size = 1 := by rw [← hy]; rfl
  have HK : Hid (kcells[37]? = some (.string y)) := by rw [← hy]; exact (kcell 12 (by decide)).2.1
  clear hy
  have L0 : Hid (LB w ((w.alloc (.cells #[.int .i64 12, .int .i64 dst, .slice (some ⟨b, off, none⟩) len cap, .int .i64 num] 77)).alloc (.cells #[.bool false] 4)) 12 dst num (.slice (some ⟨b, off, none⟩) len cap) false) := LB.start
  refine (callsIn_wide (n := 5)).1 ?_
  refine callsIn_of_wp_marks Try.func14 rfl trivial ?_ rfl
  refine wpIn_wide.2 ?_
  simp only [Try.ntmps14, List.size_toArray, List.length_cons, List.length_nil, Nat.reduceAdd, Nat.reduceSub, Array.replicate_succ, Array.replicate_zero, List.push_toArray, List.append_toArray, List.nil_append, List.cons_append]
  go_wp2_with fail
  generalize (w.alloc (.cells #[.int .i64 12, .int .i64 dst, .slice (some ⟨b, off, none⟩) len cap, .int .i64 num] 77)).alloc (.cells #[.bool false] 4) = W0 at *
  refine (opslives _).mono ?_
  rintro e W1 ⟨rfl, k⟩
  have l1 := L0.out.next k
  clear k L0
  have L1 := kept l1
  clear l1
  obtain ⟨c0, c1, c2, c3, c4, c5⟩ := L1.out.cells

  go_wp2_with fail
  refine (CN.out _ (fun i hi => L1.out.keeps.cellOf (HZ.out i hi))).mono ?_
  rintro e W2 ⟨v, rfl, ho, k⟩
  have hge1 := L1.out.ge
  obtain ⟨ga, ca, rfl, hga, hca, hcells⟩ : ∃ ga ca, v = .slice (some ⟨ga, 0, none⟩) 1 ca ∧ w.heap.size + 2 ≤ ga ∧ 1 ≤ ca ∧ ∃ cur, Blk W2 ga 3 cur ∧ cur.size = ca ∧ cur.toList.take 1 = [.int .i64 (z 0)] := by
    rcases ho.2 with ⟨_, h0⟩ | ⟨g, cp, cur, h1, h2, h3, h4, h5, h6, h7⟩
    · exact absurd h0 (by decide)
    · exact ⟨g, cp, h1, by omega, h4, cur, h3, by simpa using h6, by simpa using h7⟩
  obtain ⟨cur, hcur, hcs, hct⟩ := hcells
  have AR := kept hcur
  have HCT := kept hct
  have HCS := kept hcs
  have HGA := kept hga
  have HCA := kept hca
  have l2 := L1.out.next k
  clear k L1 c0 c1 c2 c3 c4 c5 ho hcur hct hcs hga hca hge1
  have L2 := kept l2
  clear l2
  obtain ⟨c0, c1, c2, c3, c4, c5⟩ := L2.out.cells
  have MB := kept (World.alloc_heap_new W2 (.map #[] 0))
  have l3 := L2.out.next ((Keeps.refl W2 []).alloc (.map #[] 0))
  have ar := AR.out.keep ((Keeps.refl W2 []).alloc (.map #[] 0)) (by simp)
  have HG := kept L2.out.ge
  have HNE : Hid (ga ≠ W2.heap.size) := fun e => by have := AR.out.lt; omega
  clear L2 AR c0 c1 c2 c3 c4 c5
  have L3 := kept l3
  have AR := kept ar
  clear l3 ar
  have hmm := @run_makeMap Try.prog
  generalize hgm : W2.heap.size = gm at *
  go_upto_region 5 with (refine wpList_put _ rfl _ _ _ rfl gm _ _ _ _ rfl rfl rfl MB.out (by rfl) ?_; intro W3 mb km; replace L3 := kept (L3.out.nextB km HG.out); replace AR := kept (AR.out.keep km (by simp; exact HNE.out)); replace MB := kept mb; clear mb km)
  have hl := run_look _ _ _ _ MB.out 12 (some (4, .int .i64 19)) (by rfl)
  obtain ⟨c0, c1, c2, c3, c4, c5⟩ := L3.out.cells
  go_wp2_with fail
  clear hl MB hmm
  refine wp_region_noPanic ?_
  refine wp_region_held_drew (S := (fun w' => w'.cell? ⟨w.heap.size, 0, none⟩ = some (.int .i64 12) ∧ w'.cell? ⟨w.heap.size, 2, none⟩ = some (.slice (some ⟨b, off, none⟩) len cap))) (by kernel_rfl) ?hSs (fun hHeld => ?_)
  case hSs => exact ⟨c0, c2⟩
  refine wpAnyH_take (i := 0) (oi := { dst := some 40, op := Op.move (Operand.tmp 8), type := 4, pos := "law.go:76", after := #[], guard := none }) (v := ?v0) rfl (by kernel_rfl) (by kernel_rfl) (by kernel_rfl) (fun _ _ _ h => h) (Or.inl ⟨by rfl, ?y0⟩) hHeld ?r0
  case y0 => (intro w hSw; (try dsimp only at hSw); go_simp; (try with_reducible rfl))
  try simp only [Act.put, List.setIfInBounds_toArray, List.set_cons_zero, List.set_cons_succ]
  refine wpAnyH_take (i := 1) (oi := { dst := some 41, op := Op.unOp UnOp.not 4 (Operand.tmp 40), type := 4, pos := "law.go:76", after := #[{ on := 0, ground := Ground.data }], guard := none }) (v := ?v1) rfl (by kernel_rfl) (by kernel_rfl) (by kernel_rfl) (fun _ _ _ h => h) (Or.inl ⟨by rfl, ?y1⟩) hHeld ?r1
  case y1 => (intro w hSw; (try dsimp only at hSw); go_simp; (try with_reducible rfl))
  try simp only [Act.put, List.setIfInBounds_toArray, List.set_cons_zero, List.set_cons_succ]
  refine wpAnyH_take (i := 2) (oi := { dst := some 42, op := Op.move (Operand.tmp 41), type := 4, pos := "law.go:76", after := #[{ on := 1, ground := Ground.data }], guard := none }) (v := ?v2) rfl (by kernel_rfl) (by kernel_rfl) (by kernel_rfl) (fun _ _ _ h => h) (Or.inl ⟨by rfl, ?y2⟩) hHeld ?r2
  case y2 => (intro w hSw; (try dsimp only at hSw); go_simp; (try with_reducible rfl))
  try simp only [Act.put, List.setIfInBounds_toArray, List.set_cons_zero, List.set_cons_succ]
  refine wpAnyH_take (i := 3) (oi := { dst := some 43, op := Op.fieldAddr 77 (Operand.tmp 1) 2, type := 0, pos := "law.go:76", after := #[{ on := 2, ground := Ground.guard }], guard := some (2, false) }) (v := ?v3) rfl (by kernel_rfl) (by kernel_rfl) (by kernel_rfl) (fun _ _ _ h => h) (Or.inl ⟨by rfl, ?y3⟩) hHeld ?r3
  case y3 => (intro w hSw; (try dsimp only at hSw); go_simp; (try with_reducible rfl))
  try simp only [Act.put, List.setIfInBounds_toArray, List.set_cons_zero, List.set_cons_succ]
  refine wpAnyH_take (i := 4) (oi := { dst := some 44, op := Op.load 58 (Operand.tmp 43), type := 58, pos := "law.go:76", after := #[{ on := 3, ground := Ground.data }, { on := 2, ground := Ground.guard }], guard := some (2, false) }) (v := ?v4) rfl (by kernel_rfl) (by kernel_rfl) (by kernel_rfl) (fun _ _ _ h => h) (Or.inl ⟨by rfl, ?y4⟩) hHeld ?r4
  case y4 => (intro w hSw; (try dsimp only at hSw); go_simp; (try with_reducible rfl))
  try simp only [Act.put, List.setIfInBounds_toArray, List.set_cons_zero, List.set_cons_succ]
  refine wpAnyH_take (i := 5) (oi := { dst := some 45, op := Op.call { callee := Callee.builtin Builtin.len, args := #[Operand.tmp 44], argTypes := #[58] }, type := 3, pos := "law.go:76", after := #[{ on := 4, ground := Ground.data }, { on := 2, ground := Ground.guard }], guard := some (2, false) }) (v := ?v5) rfl (by kernel_rfl) (by kernel_rfl) (by kernel_rfl) (fun _ _ _ h => h) (Or.inl ⟨by rfl, ?y5⟩) hHeld ?r5
  case y5 => (intro w hSw; (try dsimp only at hSw); go_simp; (try with_reducible rfl))
  try simp only [Act.put, List.setIfInBounds_toArray, List.set_cons_zero, List.set_cons_succ]
  refine wpAnyH_take (i := 7) (oi := { dst := some 47, op := Op.fieldAddr 77 (Operand.tmp 1) 0, type := 0, pos := "law.go:76", after := #[{ on := 2, ground := Ground.guard }], guard := some (2, false) }) (v := ?v7) rfl (by kernel_rfl) (by kernel_rfl) (by kernel_rfl) (fun _ _ _ h => h) (Or.inl ⟨by rfl, ?y7⟩) hHeld ?r7
  case y7 => (intro w hSw; (try dsimp only at hSw); go_simp; (try with_reducible rfl))
  try simp only [Act.put, List.setIfInBounds_toArray, List.set_cons_zero, List.set_cons_succ]
  refine wpAnyH_take (i := 8) (oi := { dst := some 48, op := Op.load 44 (Operand.tmp 47), type := 44, pos := "law.go:76", after := #[{ on := 7, ground := Ground.data }, { on := 2, ground := Ground.guard }], guard := some (2, false) }) (v := ?v8) rfl (by kernel_rfl) (by kernel_rfl) (by kernel_rfl) (fun _ _ _ h => h) (Or.inl ⟨by rfl, ?y8⟩) hHeld ?r8
  case y8 => (intro w hSw; (try dsimp only at hSw); go_simp; (try with_reducible rfl))
  try simp only [Act.put, List.setIfInBounds_toArray, List.set_cons_zero, List.set_cons_succ]
  refine wpAnyH_ready (rs := [6]) (by kernel_rfl) (by simp) ?_
  refine AllReadyH.cons (o := { dst := some 46, op := Op.call { callee := Callee.value (Operand.func 40), args := #[], argTypes := #[] }, type := 47, pos := "law.go:76", after := #[{ on := 2, ground := Ground.chain }, { on := 2, ground := Ground.guard }], guard := some (2, false) }) rfl (fun K hK => ?_) AllReadyH.nil
  go_simp
  (with_reducible refine (CRO.out _).mono ?_)
  rintro e wx ⟨rfl, k⟩
  show K _ _
  obtain ⟨k, rb⟩ := k
  have r1 : wx.cell? ⟨W3.heap.size, 37, none⟩ = some (.string y) := (rb.cell 37).trans HK.out
  clear rb
  have lx := L3.out.later k (by first | exact Keeps.refl _ [] | exact (Keeps.refl _ []).drew)
  have ar := blk_later AR.out k (by first | exact Keeps.refl _ [] | exact (Keeps.refl _ []).drew)
  clear k c0 c1 c2 c3 c4 c5 L3 AR
  obtain ⟨c0, c1, c2, c3, c4, c5⟩ := lx.cells
  have L3 := kept lx
  have AR := kept ar
  clear lx ar
  clear hHeld
  refine hK.out _ _ ?hS6 (fun hHeld => ?_)
  case hS6 => exact ⟨c0, c2⟩
  clear hK K
  try simp only [Act.put, List.setIfInBounds_toArray, List.set_cons_zero, List.set_cons_succ]
  refine wpAnyH_take (i := 9) (oi := { dst := some 49, op := Op.indexAddr 47 (Operand.tmp 46) (Operand.tmp 48), type := 0, pos := "law.go:76", after := #[{ on := 6, ground := Ground.data }, { on := 8, ground := Ground.data }, { on := 2, ground := Ground.guard }], guard := some (2, false) }) (v := ?v9) rfl (by kernel_rfl) (by kernel_rfl) (by kernel_rfl) (fun _ _ _ h => h) (Or.inl ⟨by rfl, ?y9⟩) hHeld ?r9
  case y9 => (intro w hSw; (try dsimp only at hSw); go_simp; (try with_reducible rfl))
  try simp only [Act.put, List.setIfInBounds_toArray, List.set_cons_zero, List.set_cons_succ]
  refine wpAnyH_take (i := 10) (oi := { dst := some 50, op := Op.fieldAddr 50 (Operand.tmp 49) 1, type := 0, pos := "law.go:76", after := #[{ on := 9, ground := Ground.data }, { on := 2, ground := Ground.guard }], guard := some (2, false) }) (v := ?v10) rfl (by kernel_rfl) (by kernel_rfl) (by kernel_rfl) (fun _ _ _ h => h) (Or.inl ⟨by rfl, ?y10⟩) hHeld ?r10
  case y10 => (intro w hSw; (try dsimp only at hSw); go_simp; (try with_reducible rfl))
  try simp only [Act.put, List.setIfInBounds_toArray, List.set_cons_zero, List.set_cons_succ]
  refine wpAnyH_ready (rs := [11]) (by kernel_rfl) (by simp) ?_
  refine AllReadyH.cons (o := { dst := some 51, op := Op.load 9 (Operand.tmp 50), type := 9, pos := "law.go:76", after := #[{ on := 10, ground := Ground.data }, { on := 2, ground := Ground.guard }], guard := some (2, false) }) rfl (fun K hK => ?_) AllReadyH.nil
  go_simp
  clear hHeld
  refine hK.out _ _ ?hS11 (fun hHeld => ?_)
  case hS11 => exact ⟨c0, c2⟩
  clear hK K
  try simp only [Act.put, List.setIfInBounds_toArray, List.set_cons_zero, List.set_cons_succ]
  refine wpAnyH_take (i := 12) (oi := { dst := some 52, op := Op.call { callee := Callee.builtin Builtin.len, args := #[Operand.tmp 51], argTypes := #[9] }, type := 3, pos := "law.go:76", after := #[{ on := 11, ground := Ground.data }, { on := 2, ground := Ground.guard }], guard := some (2, false) }) (v := ?v12) rfl (by kernel_rfl) (by kernel_rfl) (by kernel_rfl) (fun _ _ _ h => h) (Or.inl ⟨by rfl, ?y12⟩) hHeld ?r12
  case y12 => (intro w hSw; (try dsimp only at hSw); go_simp; (try with_reducible rfl))
  try simp only [Act.put, List.setIfInBounds_toArray, List.set_cons_zero, List.set_cons_succ]
  refine wpAnyH_take (i := 13) (oi := { dst := some 53, op := Op.binOp BinOp.lss 3 (Operand.tmp 45) (Operand.tmp 52) 3, type := 4, pos := "law.go:76", after := #[{ on := 5, ground := Ground.data }, { on := 12, ground := Ground.data }, { on := 2, ground := Ground.guard }], guard := some (2, false) }) (v := ?v13) rfl (by kernel_rfl) (by kernel_rfl) (by kernel_rfl) (fun _ _ _ h => h) (Or.inl ⟨by rfl, ?y13⟩) hHeld ?r13
  case y13 => (intro w hSw; (try dsimp only at hSw); go_simp; (try with_reducible rfl))
  try simp only [Act.put, List.setIfInBounds_toArray, List.set_cons_zero, List.set_cons_succ]
  refine wpAnyH_take (i := 14) (oi := { dst := some 54, op := Op.pick (Operand.tmp 42) (Operand.const (Value.bool true)) (Operand.tmp 53), type := 4, pos := "law.go:76", after := #[{ on := 2, ground := Ground.data }, { on := 13, ground := Ground.data }], guard := none }) (v := ?v14) rfl (by kernel_rfl) (by kernel_rfl) (by kernel_rfl) (fun _ _ _ h => h) (Or.inl ⟨by rfl, ?y14⟩) hHeld ?r14
  case y14 => (intro w hSw; (try dsimp only at hSw); go_simp; (try with_reducible rfl))
  try simp only [Act.put, List.setIfInBounds_toArray, List.set_cons_zero, List.set_cons_succ]
  refine wpAnyH_done (by kernel_rfl) ?_ _
  refine NoPanic.normal ?_
  have RZ : Hid (Rz w wx ga ca 1 0 0 z 12 dst num (.slice (some ⟨b, off, none⟩) len cap)) := ⟨L3.out, cur, AR.out, HCS.out, fun i hi => by
    have hg : (cur.toList.take 1)[i]? = cur.toList[i]? := by rw [List.getElem?_take, if_pos hi]
    rw [if_neg (Nat.not_lt_zero _), ← Array.getElem?_toList, ← hg, HCT.out]
    match i, hi with
    | 0, _ => rfl
    | n + 1, h => exact absurd h (by omega)⟩
  clear L3 AR HCT HCS c0 c1 c2 c3 c4 c5
  go_wp2
  go_loopw [92] (fun i wr => ∃ j : Nat, j ≤ 1 ∧ i = .int .i64 j ∧ Rz w wr ga ca 1 0 j z 12 dst num (.slice (some ⟨b, off, none⟩) len cap)) (fun i _ => 1 - (intOf i).toNat)
  case atStart => exact ⟨0, by omega, rfl, RZ.out⟩
  case round =>
    obtain ⟨j, hj, rfl, hR⟩ := hrel
    have RZ := kept hR
    clear hR
    by_cases hlt : j < 1
    · obtain ⟨a0, a1⟩ := RZ.out.at hlt
      have a2 : wr.cell? ⟨b, off + j, none⟩ = some (.int .i64 (z (0 + j))) := by
        have := RZ.out.lb.keeps.cellOf (HZ.out (0 + j) (by omega))
        simpa [Nat.add_assoc] using this
      generalize hzj : z (0 + j) = zj at *
      have HZJ := kept hzj
      clear hzj
      go_wp2
      go_quiet (fail)
      have rz := RZ.out.step hlt HCA.out HGA.out ((Keeps.refl wr []).drewN nq)
      rw [HZJ.out] at rz
      go_wp2
      go_roundw
      case rel => exact ⟨j + 1, by omega, by go_num, rz⟩
      case measure => simp [intOf]; omega
    · obtain rfl : j = 1 := by omega
      clear hj hlt
      obtain ⟨c0, c1, c2, c3, c4, c5⟩ := RZ.out.lb.cells
      go_wp2_with fail
      refine (all60 _).mono ?_
      rintro e w6 ⟨rfl, rfl⟩
      have hn0 := cell_new_l wr (.int .i64 0) 3
      go_wp2_with fail
      refine (wpIn_wide (n := 5)).1 ?_
      refine' wpIn_rangeFunc_ownF rfl (by decide) (gf := 92) (lb := #[]) rfl trivial (enters_of Try.func92 (by kernel_rfl) rfl)
        (all_stops Fence.wide 4 trivial rfl (by decide) wr.heap.size _) belowK_t (belowK_b (by simp)) (Below.refl _ _) (fun _ => rfl)
        (fun pre W => (W.cell? ⟨wr.heap.size, 0, none⟩ = some (.int .i64 pre.length) ∧ W.frozen? ⟨wr.heap.size, 0, none⟩ = false) ∧ Below wr.heap.size (wr.alloc (.cells #[.int .i64 0] 3)) W)
        (fun c pre W => c = .ret ∧ ∃ p0 x, pre = p0 ++ [x] ∧ x ≠ (p0.length : Int))
        (OwnFrom.and (Own.from (fun s A B row hs hg hr => ⟨cell_kept hs.1 hg hr, (frozen_kept hs.1 hg hr).trans hs.2⟩) _) (ownFrom_below (by simp) (by simp)))
        (fun c => Own.from (fun s A B row hs hg hr => hs) _)
        ⟨hn0, Below.refl _ _⟩ _ ?assign ?body ?done ?stop
      case assign =>
        intro l x W K hK
        gi_wp2
        exact hK
      case body =>
        rintro l pre x W ⟨⟨hn1, hn2⟩, hBW⟩ _
        have hWsz := hBW.size
        have hr1 : W.cell? ⟨w.heap.size + 1, 0, none⟩ = some (.bool false) := by
          have hlt := RZ.out.lb.res.lt
          have h1 := hBW.block (w.heap.size + 1) hlt
          have h2 : (wr.alloc (.cells #[.int .i64 0] 3)).heap[w.heap.size + 1]? = wr.heap[w.heap.size + 1]? := Below.heap_alloc wr _ _ hlt
          rw [← c4]; simp only [World.cell?]; rw [h1, h2]
        have hr2 : W.frozen? ⟨w.heap.size + 1, 0, none⟩ = false := by
          have hlt := RZ.out.lb.res.lt
          have h1 := hBW.block (w.heap.size + 1) hlt
          have h2 : (wr.alloc (.cells #[.int .i64 0] 3)).heap[w.heap.size + 1]? = wr.heap[w.heap.size + 1]? := Below.heap_alloc wr _ _ hlt
          rw [← c5]; simp only [World.frozen?]; rw [h1, h2]
        by_cases hx : x = (pre.length : Int)
        · have hb : (x != (pre.length : Int)) = false := by simp [hx]
          have HX := kept hx
          clear hx
          gi_wp2
          have el : (((pre ++ [x]).length : Nat) : Int) = (pre.length : Int) + 1 := by simp
          exact ⟨KeepsOthers.setCell _ _ _, (Below.refl wr.heap.size W).setCell (p := ⟨wr.heap.size, 0, none⟩) (Nat.le_refl _) _, ⟨by rw [el]; exact World.cell?_setCell_same' _ _ _ (by rw [hn1]; rfl), by rw [World.frozen?_setCell]; exact hn2⟩, hBW.setCell (p := ⟨wr.heap.size, 0, none⟩) (Nat.le_refl _) _⟩
        · have hb : (x != (pre.length : Int)) = true := by simp [hx]
          have HX := kept hx
          clear hx
          gi_wp2
          exact ⟨KeepsOthers.setCell _ _ _, rfl, pre, x, rfl, HX.out⟩
      case done =>
        rintro D ys W hD rfl ⟨⟨hn1, hn2⟩, hBW⟩ hK
        have k6 : Keeps wr W [] := ⟨hBW.os, hBW.tape, hBW.output, Nat.le_trans (by simp) hBW.size, fun i hi _ => (hBW.block i hi).trans (Below.heap_alloc wr _ i hi)⟩
        have hn : W.cell? ⟨wr.heap.size, 0, none⟩ = some (.int .i64 27) := by rw [opsUpto_length] at hn1; exact hn1
        have HD := kept hD
        have HWR := kept (show w.heap.size + 1 < wr.heap.size from RZ.out.lb.res.lt)
        have l7 := RZ.out.lb.next k6
        have r7 : W.heap.size ≥ wr.heap.size := k6.size
        have HW7 := kept r7
        clear hn1 hn2 hBW k6 RZ c0 c1 c2 c3 c4 c5 hn0 hD r7
        have L7 := kept l7
        clear l7
        have HKD := kept hK
        clear hK
        obtain ⟨c0, c1, c2, c3, c4, c5⟩ := L7.out.cells
        go_wp2_with fail
        refine (CN.out _ (fun i hi => L7.out.keeps.cellOf (HZ.out i hi))).mono ?_
        rintro e W8 ⟨v2, rfl, ho, k⟩
        obtain ⟨g2, cb, rfl, hg2, hcell2⟩ : ∃ g2 cb, v2 = .slice (some ⟨g2, 0, none⟩) 1 cb ∧ W.heap.size ≤ g2 ∧ W8.cell? ⟨g2, 0, none⟩ = some (.int .i64 (z 0)) := by
          rcases ho.2 with ⟨_, h0⟩ | ⟨g, cp, cur2, h1, h2, h3, h4, h5, h6, h7⟩
          · exact absurd h0 (by decide)
          · refine ⟨g, cp, h1, h2, ?_⟩
            have hb2 : Blk W8 g 3 cur2 := h3
            rw [hb2.cell 0]
            have e1 : (cur2.toList.take (1 * 1))[0]? = cur2.toList[0]? := by rw [List.getElem?_take, if_pos (by decide)]
            rw [← Array.getElem?_toList, ← e1, h7]
            rfl
        have l8 := L7.out.next k
        have n1 := k.cellOf hn
        have n2 := hcell2
        have n3 : W8.cell? ⟨b, off, none⟩ = some (.int .i64 (z 0)) := l8.keeps.cellOf (HZ.out 0 (by omega))
        have HKE := kept (obj_keep HKD.out k)
        have HE1 : Hid (wr.heap.size ≠ w.heap.size + 1) := fun e => by have := HWR.out; omega
        have HE2 : Hid (g2 ≠ w.heap.size + 1) := fun e => by have := HWR.out; have := HW7.out; omega
        have HE3 : Hid (b ≠ w.heap.size + 1) := fun e => by
          have := World.block_lt_of_cell? w _ (HZ.out 0 (by omega))
          simp at this
          omega
        clear k L7 c0 c1 c2 c3 c4 c5 ho hn hcell2 hg2 HKD
        have L8 := kept l8
        clear l8
        obtain ⟨c0, c1, c2, c3, c4, c5⟩ := L8.out.cells
        generalize z 0 = z0 at *
        go_wp2_with fail
        refine wp_region_noPanic ?_
        refine wp_region_held_drew (S := (fun w' => w'.cell? ⟨wr.heap.size, 0, none⟩ = some (.int .i64 27) ∧ w'.cell? ⟨g2, 0, none⟩ = some (.int .i64 z0) ∧ w'.cell? ⟨b, off, none⟩ = some (.int .i64 z0))) (by kernel_rfl) ?qhSs (fun hHeld => ?_)
        case qhSs => exact ⟨n1, n2, n3⟩
        refine wpAnyH_take (i := 0) (oi := { dst := some 124, op := Op.load 3 (Operand.tmp 11), type := 3, pos := "law.go:105", after := #[], guard := none }) (v := ?qv0) rfl (by kernel_rfl) (by kernel_rfl) (by kernel_rfl) (fun _ _ _ h => h) (Or.inl ⟨by rfl, ?qy0⟩) hHeld ?qr0
        case qy0 => (intro w hSw; (try dsimp only at hSw); go_simp; (try with_reducible rfl))
        try simp only [Act.put, List.setIfInBounds_toArray, List.set_cons_zero, List.set_cons_succ]
        refine wpAnyH_ready (rs := [1]) (by kernel_rfl) (by simp) ?_
        refine AllReadyH.cons (o := { dst := some 125, op := Op.call { callee := Callee.value (Operand.func 40), args := #[], argTypes := #[] }, type := 47, pos := "law.go:105", after := #[], guard := none }) rfl (fun K hK => ?_) AllReadyH.nil
        go_simp
        (with_reducible refine (CRO.out _).mono ?_)
        rintro e wx ⟨rfl, k⟩
        show K _ _
        obtain ⟨k, rb⟩ := k
        clear rb
        have lx := L8.out.later k (by first | exact Keeps.refl _ [] | exact (Keeps.refl _ []).drew)
        replace n1 := cell_later n1 k (by first | exact Keeps.refl _ [] | exact (Keeps.refl _ []).drew)
        replace n2 := cell_later n2 k (by first | exact Keeps.refl _ [] | exact (Keeps.refl _ []).drew)
        replace n3 := cell_later n3 k (by first | exact Keeps.refl _ [] | exact (Keeps.refl _ []).drew)
        replace HKE := kept (obj_later HKE.out k (by first | exact Keeps.refl _ [] | exact (Keeps.refl _ []).drew))
        clear k c0 c1 c2 c3 c4 c5 L8
        have L8 := kept lx
        clear lx
        obtain ⟨c0, c1, c2, c3, c4, c5⟩ := L8.out.cells
        clear hHeld
        refine hK.out _ _ ?qhS1 (fun hHeld => ?_)
        case qhS1 => exact ⟨n1, n2, n3⟩
        clear hK K
        try simp only [Act.put, List.setIfInBounds_toArray, List.set_cons_zero, List.set_cons_succ]
        refine wpAnyH_take (i := 2) (oi := { dst := some 126, op := Op.call { callee := Callee.builtin Builtin.len, args := #[Operand.tmp 125], argTypes := #[47] }, type := 3, pos := "law.go:105", after := #[{ on := 1, ground := Ground.data }], guard := none }) (v := ?qv2) rfl (by kernel_rfl) (by kernel_rfl) (by kernel_rfl) (fun _ _ _ h => h) (Or.inl ⟨by rfl, ?qy2⟩) hHeld ?qr2
        case qy2 => (intro w hSw; (try dsimp only at hSw); go_simp; (try with_reducible rfl))
        try simp only [Act.put, List.setIfInBounds_toArray, List.set_cons_zero, List.set_cons_succ]
        refine wpAnyH_take (i := 3) (oi := { dst := some 127, op := Op.binOp BinOp.eql 3 (Operand.tmp 124) (Operand.tmp 126) 3, type := 4, pos := "law.go:105", after := #[{ on := 0, ground := Ground.data }, { on := 2, ground := Ground.data }], guard := none }) (v := ?qv3) rfl (by kernel_rfl) (by kernel_rfl) (by kernel_rfl) (fun _ _ _ h => h) (Or.inl ⟨by rfl, ?qy3⟩) hHeld ?qr3
        case qy3 => (intro w hSw; (try dsimp only at hSw); go_simp; (try with_reducible rfl))
        try simp only [Act.put, List.setIfInBounds_toArray, List.set_cons_zero, List.set_cons_succ]
        refine wpAnyH_take (i := 4) (oi := { dst := some 128, op := Op.move (Operand.tmp 127), type := 4, pos := "law.go:105", after := #[{ on := 3, ground := Ground.data }, { on := 1, ground := Ground.chain }], guard := none }) (v := ?qv4) rfl (by kernel_rfl) (by kernel_rfl) (by kernel_rfl) (fun _ _ _ h => h) (Or.inl ⟨by rfl, ?qy4⟩) hHeld ?qr4
        case qy4 => (intro w hSw; (try dsimp only at hSw); go_simp; (try with_reducible rfl))
        try simp only [Act.put, List.setIfInBounds_toArray, List.set_cons_zero, List.set_cons_succ]
        refine wpAnyH_take (i := 5) (oi := { dst := some 129, op := Op.move (Operand.tmp 14), type := 58, pos := "law.go:105", after := #[{ on := 4, ground := Ground.guard }], guard := some (4, true) }) (v := ?qv5) rfl (by kernel_rfl) (by kernel_rfl) (by kernel_rfl) (fun _ _ _ h => h) (Or.inl ⟨by rfl, ?qy5⟩) hHeld ?qr5
        case qy5 => (intro w hSw; (try dsimp only at hSw); go_simp; (try with_reducible rfl))
        try simp only [Act.put, List.setIfInBounds_toArray, List.set_cons_zero, List.set_cons_succ]
        refine wpAnyH_take (i := 6) (oi := { dst := some 130, op := Op.indexAddr 58 (Operand.tmp 129) (Operand.const (Value.int IntKind.i64 0)), type := 0, pos := "law.go:105", after := #[{ on := 5, ground := Ground.data }, { on := 4, ground := Ground.guard }], guard := some (4, true) }) (v := ?qv6) rfl (by kernel_rfl) (by kernel_rfl) (by kernel_rfl) (fun _ _ _ h => h) (Or.inl ⟨by rfl, ?qy6⟩) hHeld ?qr6
        case qy6 => (intro w hSw; (try dsimp only at hSw); go_simp; (try with_reducible rfl))
        try simp only [Act.put, List.setIfInBounds_toArray, List.set_cons_zero, List.set_cons_succ]
        refine wpAnyH_take (i := 7) (oi := { dst := some 131, op := Op.load 3 (Operand.tmp 130), type := 3, pos := "law.go:105", after := #[{ on := 6, ground := Ground.data }, { on := 4, ground := Ground.guard }], guard := some (4, true) }) (v := ?qv7) rfl (by kernel_rfl) (by kernel_rfl) (by kernel_rfl) (fun _ _ _ h => h) (Or.inl ⟨by rfl, ?qy7⟩) hHeld ?qr7
        case qy7 => (intro w hSw; (try dsimp only at hSw); go_simp; (try with_reducible rfl))
        try simp only [Act.put, List.setIfInBounds_toArray, List.set_cons_zero, List.set_cons_succ]
        refine wpAnyH_take (i := 8) (oi := { dst := some 132, op := Op.move (Operand.tmp 9), type := 58, pos := "law.go:105", after := #[{ on := 4, ground := Ground.guard }], guard := some (4, true) }) (v := ?qv8) rfl (by kernel_rfl) (by kernel_rfl) (by kernel_rfl) (fun _ _ _ h => h) (Or.inl ⟨by rfl, ?qy8⟩) hHeld ?qr8
        case qy8 => (intro w hSw; (try dsimp only at hSw); go_simp; (try with_reducible rfl))
        try simp only [Act.put, List.setIfInBounds_toArray, List.set_cons_zero, List.set_cons_succ]
        refine wpAnyH_take (i := 9) (oi := { dst := some 133, op := Op.indexAddr 58 (Operand.tmp 132) (Operand.const (Value.int IntKind.i64 0)), type := 0, pos := "law.go:105", after := #[{ on := 8, ground := Ground.data }, { on := 4, ground := Ground.guard }], guard := some (4, true) }) (v := ?qv9) rfl (by kernel_rfl) (by kernel_rfl) (by kernel_rfl) (fun _ _ _ h => h) (Or.inl ⟨by rfl, ?qy9⟩) hHeld ?qr9
        case qy9 => (intro w hSw; (try dsimp only at hSw); go_simp; (try with_reducible rfl))
        try simp only [Act.put, List.setIfInBounds_toArray, List.set_cons_zero, List.set_cons_succ]
        refine wpAnyH_take (i := 10) (oi := { dst := some 134, op := Op.load 3 (Operand.tmp 133), type := 3, pos := "law.go:105", after := #[{ on := 9, ground := Ground.data }, { on := 4, ground := Ground.guard }], guard := some (4, true) }) (v := ?qv10) rfl (by kernel_rfl) (by kernel_rfl) (by kernel_rfl) (fun _ _ _ h => h) (Or.inl ⟨by rfl, ?qy10⟩) hHeld ?qr10
        case qy10 => (intro w hSw; (try dsimp only at hSw); go_simp; (try with_reducible rfl))
        try simp only [Act.put, List.setIfInBounds_toArray, List.set_cons_zero, List.set_cons_succ]
        refine wpAnyH_take (i := 11) (oi := { dst := some 135, op := Op.binOp BinOp.eql 3 (Operand.tmp 131) (Operand.tmp 134) 3, type := 4, pos := "law.go:105", after := #[{ on := 7, ground := Ground.data }, { on := 10, ground := Ground.data }, { on := 4, ground := Ground.guard }], guard := some (4, true) }) (v := ?qv11) rfl (by kernel_rfl) (by kernel_rfl) (by kernel_rfl) (fun _ _ _ h => h) (Or.inl ⟨by rfl, ?qy11⟩) hHeld ?qr11
        case qy11 => (intro w hSw; (try dsimp only at hSw); go_simp; (try with_reducible rfl))
        try simp only [Act.put, List.setIfInBounds_toArray, List.set_cons_zero, List.set_cons_succ]
        refine wpAnyH_take (i := 12) (oi := { dst := some 136, op := Op.pick (Operand.tmp 128) (Operand.tmp 135) (Operand.const (Value.bool false)), type := 4, pos := "law.go:105", after := #[{ on := 4, ground := Ground.data }, { on := 11, ground := Ground.data }], guard := none }) (v := ?qv12) rfl (by kernel_rfl) (by kernel_rfl) (by kernel_rfl) (fun _ _ _ h => h) (Or.inl ⟨by rfl, ?qy12⟩) hHeld ?qr12
        case qy12 => (intro w hSw; (try dsimp only at hSw); go_simp; (try with_reducible rfl))
        try simp only [Act.put, List.setIfInBounds_toArray, List.set_cons_zero, List.set_cons_succ]
        refine wpAnyH_ready (rs := [13]) (by kernel_rfl) (by simp) ?_
        refine AllReadyH.cons (o := { dst := none, op := Op.store 4 (Operand.tmp 2) (Operand.tmp 136), type := 0, pos := "law.go:105", after := #[{ on := 12, ground := Ground.data }, { on := 4, ground := Ground.chain }, { on := 0, ground := Ground.phase }, { on := 1, ground := Ground.phase }, { on := 2, ground := Ground.phase }, { on := 3, ground := Ground.phase }, { on := 4, ground := Ground.phase }, { on := 5, ground := Ground.phase }, { on := 6, ground := Ground.phase }, { on := 7, ground := Ground.phase }, { on := 8, ground := Ground.phase }, { on := 9, ground := Ground.phase }, { on := 10, ground := Ground.phase }, { on := 11, ground := Ground.phase }, { on := 12, ground := Ground.phase }], guard := none }) rfl (fun K hK => ?_) AllReadyH.nil
        go_simp
        clear hHeld
        refine hK.out _ _ ?qhS13 (fun hHeld => ?_)
        case qhS13 => exact ⟨cell_set_other HE1.out n1, cell_set_other HE2.out n2, cell_set_other HE3.out n3⟩
        clear hK K
        try simp only [Act.put, List.setIfInBounds_toArray, List.set_cons_zero, List.set_cons_succ]
        refine wpAnyH_done (by kernel_rfl) ?_ _
        refine NoPanic.normal ?_
        go_wp2
        have l9 := L8.out.lay true
        have hK' := (KeepsOthers.setCell wx ⟨w.heap.size + 1, 0, none⟩ (.bool true)).same D _ HKE.out rfl
        refine ⟨by simp, .inl ⟨_, _, rfl, run_takeDeferred hK', ?_⟩⟩
        have hc5 := cell_kept (l9.res.cell 0) (grownBy_putObj' _ D (.deferred none)) (fun r e => by cases e; exact ⟨_, hK', rfl⟩)
        refine ⟨.bool true, ?_, rfl, (l9.keeps.below (Nat.le_refl _) (by simp)).trans (belowK_b (w := w) (Nat.le_refl _) _ D _ _ (by have h1 := HD.out; have h2 := HWR.out; rw [World.size_alloc] at h1; omega) hK' rfl rfl)⟩
        simp [results, Try.f14, go_sem, hc5]
      case stop =>
        rintro D c pre W hD ⟨q, hq, hpre⟩ ⟨rfl, p0, x, hp, hx⟩ hK
        rw [hp] at hpre
        obtain ⟨jj, rfl, rfl, rfl⟩ := opsUpto_inv hpre
        rw [opsUpto_length] at hx
        exact absurd rfl hx

set_option maxRecDepth 100000 in
set_option maxHeartbeats 16000000 in
theorem need_yes13 (dst num : Int) (b off : Nat) (len cap : Nat) (h : 2 ≤ len) (h10 : len ≤ 10) (hc : len ≤ cap) (hm : cap ≤ maxLen) (z : Nat → Int) (w : World) (hz : ∀ i, i < len → w.cell? ⟨b, off + i, none⟩ = some (.int .i64 (z i))) :
    Calls Try.prog 14 #[.agg #[.int .i64 13, .int .i64 dst, .slice (some ⟨b, off, none⟩) len cap, .int .i64 num]] w fun e w' => e = .returned (.bool true) ∧ Below w.heap.size w w' := by
  have hd : decide (10 < (len : Int)) = false := by simp; omega
  have hd2 : decide ((len : Int) < 2) = false := by simp; omega
  have CRO := kept rows_k
  have CN := kept (fun w hz => needs_yes13 dst num b off len cap h hc hm z w hz)
  have HZ := kept hz
  clear hz
  obtain ⟨y, hy⟩ : ∃ y, ktakes 13 = y := ⟨_, rfl⟩
  have hys : y.size = 2 := by rw [← hy]; rfl
  have HK : Hid (kcells[40]? = some (.string y)) := by rw [← hy]; exact (kcell 13 (by decide)).2.1
  clear hy
  have L0 : Hid (LB w ((w.alloc (.cells #[.int .i64 13, .int .i64 dst, .slice (some ⟨b, off, none⟩) len cap, .int .i64 num] 77)).alloc (.cells #[.bool false] 4)) 13 dst num (.slice (some ⟨b, off, none⟩) len cap) false) := LB.start
  refine (callsIn_wide (n := 5)).1 ?_
  refine callsIn_of_wp_marks Try.func14 rfl trivial ?_ rfl
  refine wpIn_wide.2 ?_
  simp only [Try.ntmps14, List.size_toArray, List.length_cons, List.length_nil, Nat.reduceAdd, Nat.reduceSub, Array.replicate_succ, Array.replicate_zero, List.push_toArray, List.append_toArray, List.nil_append, List.cons_append]
  go_wp2_with fail
  generalize (w.alloc (.cells #[.int .i64 13, .int .i64 dst, .slice (some ⟨b, off, none⟩) len cap, .int .i64 num] 77)).alloc (.cells #[.bool false] 4) = W0 at *
  refine (opslives _).mono ?_
  rintro e W1 ⟨rfl, k⟩
  have l1 := L0.out.next k
  clear k L0
  have L1 := kept l1
  clear l1
  obtain ⟨c0, c1, c2, c3, c4, c5⟩ := L1.out.cells

  go_wp2_with fail
  refine (CN.out _ (fun i hi => L1.out.keeps.cellOf (HZ.out i hi))).mono ?_
  rintro e W2 ⟨v, rfl, ho, k⟩
  have hge1 := L1.out.ge
  obtain ⟨ga, ca, rfl, hga, hca, hcells⟩ : ∃ ga ca, v = .slice (some ⟨ga, 0, none⟩) 2 ca ∧ w.heap.size + 2 ≤ ga ∧ 2 ≤ ca ∧ ∃ cur, Blk W2 ga 3 cur ∧ cur.size = ca ∧ cur.toList.take 2 = [.int .i64 (z 0), .int .i64 (z 1)] := by
    rcases ho.2 with ⟨_, h0⟩ | ⟨g, cp, cur, h1, h2, h3, h4, h5, h6, h7⟩
    · exact absurd h0 (by decide)
    · exact ⟨g, cp, h1, by omega, h4, cur, h3, by simpa using h6, by simpa using h7⟩
  obtain ⟨cur, hcur, hcs, hct⟩ := hcells
  have AR := kept hcur
  have HCT := kept hct
  have HCS := kept hcs
  have HGA := kept hga
  have HCA := kept hca
  have l2 := L1.out.next k
  clear k L1 c0 c1 c2 c3 c4 c5 ho hcur hct hcs hga hca hge1
  have L2 := kept l2
  clear l2
  obtain ⟨c0, c1, c2, c3, c4, c5⟩ := L2.out.cells
  have MB := kept (World.alloc_heap_new W2 (.map #[] 0))
  have l3 := L2.out.next ((Keeps.refl W2 []).alloc (.map #[] 0))
  have ar := AR.out.keep ((Keeps.refl W2 []).alloc (.map #[] 0)) (by simp)
  have HG := kept L2.out.ge
  have HNE : Hid (ga ≠ W2.heap.size) := fun e => by have := AR.out.lt; omega
  clear L2 AR c0 c1 c2 c3 c4 c5
  have L3 := kept l3
  have AR := kept ar
  clear l3 ar
  have hmm := @run_makeMap Try.prog
  generalize hgm : W2.heap.size = gm at *
  go_upto_region 5 with (refine wpList_put _ rfl _ _ _ rfl gm _ _ _ _ rfl rfl rfl MB.out (by rfl) ?_; intro W3 mb km; replace L3 := kept (L3.out.nextB km HG.out); replace AR := kept (AR.out.keep km (by simp; exact HNE.out)); replace MB := kept mb; clear mb km)
  have hl := run_look _ _ _ _ MB.out 13 (some (2, .int .i64 18)) (by rfl)
  obtain ⟨c0, c1, c2, c3, c4, c5⟩ := L3.out.cells
  go_wp2_with fail
  clear hl MB hmm
  refine wp_region_noPanic ?_
  refine wp_region_held_drew (S := (fun w' => w'.cell? ⟨w.heap.size, 0, none⟩ = some (.int .i64 13) ∧ w'.cell? ⟨w.heap.size, 2, none⟩ = some (.slice (some ⟨b, off, none⟩) len cap))) (by kernel_rfl) ?hSs (fun hHeld => ?_)
  case hSs => exact ⟨c0, c2⟩
  refine wpAnyH_take (i := 0) (oi := { dst := some 40, op := Op.move (Operand.tmp 8), type := 4, pos := "law.go:76", after := #[], guard := none }) (v := ?v0) rfl (by kernel_rfl) (by kernel_rfl) (by kernel_rfl) (fun _ _ _ h => h) (Or.inl ⟨by rfl, ?y0⟩) hHeld ?r0
  case y0 => (intro w hSw; (try dsimp only at hSw); go_simp; (try with_reducible rfl))
  try simp only [Act.put, List.setIfInBounds_toArray, List.set_cons_zero, List.set_cons_succ]
  refine wpAnyH_take (i := 1) (oi := { dst := some 41, op := Op.unOp UnOp.not 4 (Operand.tmp 40), type := 4, pos := "law.go:76", after := #[{ on := 0, ground := Ground.data }], guard := none }) (v := ?v1) rfl (by kernel_rfl) (by kernel_rfl) (by kernel_rfl) (fun _ _ _ h => h) (Or.inl ⟨by rfl, ?y1⟩) hHeld ?r1
  case y1 => (intro w hSw; (try dsimp only at hSw); go_simp; (try with_reducible rfl))
  try simp only [Act.put, List.setIfInBounds_toArray, List.set_cons_zero, List.set_cons_succ]
  refine wpAnyH_take (i := 2) (oi := { dst := some 42, op := Op.move (Operand.tmp 41), type := 4, pos := "law.go:76", after := #[{ on := 1, ground := Ground.data }], guard := none }) (v := ?v2) rfl (by kernel_rfl) (by kernel_rfl) (by kernel_rfl) (fun _ _ _ h => h) (Or.inl ⟨by rfl, ?y2⟩) hHeld ?r2
  case y2 => (intro w hSw; (try dsimp only at hSw); go_simp; (try with_reducible rfl))
  try simp only [Act.put, List.setIfInBounds_toArray, List.set_cons_zero, List.set_cons_succ]
  refine wpAnyH_take (i := 3) (oi := { dst := some 43, op := Op.fieldAddr 77 (Operand.tmp 1) 2, type := 0, pos := "law.go:76", after := #[{ on := 2, ground := Ground.guard }], guard := some (2, false) }) (v := ?v3) rfl (by kernel_rfl) (by kernel_rfl) (by kernel_rfl) (fun _ _ _ h => h) (Or.inl ⟨by rfl, ?y3⟩) hHeld ?r3
  case y3 => (intro w hSw; (try dsimp only at hSw); go_simp; (try with_reducible rfl))
  try simp only [Act.put, List.setIfInBounds_toArray, List.set_cons_zero, List.set_cons_succ]
  refine wpAnyH_take (i := 4) (oi := { dst := some 44, op := Op.load 58 (Operand.tmp 43), type := 58, pos := "law.go:76", after := #[{ on := 3, ground := Ground.data }, { on := 2, ground := Ground.guard }], guard := some (2, false) }) (v := ?v4) rfl (by kernel_rfl) (by kernel_rfl) (by kernel_rfl) (fun _ _ _ h => h) (Or.inl ⟨by rfl, ?y4⟩) hHeld ?r4
  case y4 => (intro w hSw; (try dsimp only at hSw); go_simp; (try with_reducible rfl))
  try simp only [Act.put, List.setIfInBounds_toArray, List.set_cons_zero, List.set_cons_succ]
  refine wpAnyH_take (i := 5) (oi := { dst := some 45, op := Op.call { callee := Callee.builtin Builtin.len, args := #[Operand.tmp 44], argTypes := #[58] }, type := 3, pos := "law.go:76", after := #[{ on := 4, ground := Ground.data }, { on := 2, ground := Ground.guard }], guard := some (2, false) }) (v := ?v5) rfl (by kernel_rfl) (by kernel_rfl) (by kernel_rfl) (fun _ _ _ h => h) (Or.inl ⟨by rfl, ?y5⟩) hHeld ?r5
  case y5 => (intro w hSw; (try dsimp only at hSw); go_simp; (try with_reducible rfl))
  try simp only [Act.put, List.setIfInBounds_toArray, List.set_cons_zero, List.set_cons_succ]
  refine wpAnyH_take (i := 7) (oi := { dst := some 47, op := Op.fieldAddr 77 (Operand.tmp 1) 0, type := 0, pos := "law.go:76", after := #[{ on := 2, ground := Ground.guard }], guard := some (2, false) }) (v := ?v7) rfl (by kernel_rfl) (by kernel_rfl) (by kernel_rfl) (fun _ _ _ h => h) (Or.inl ⟨by rfl, ?y7⟩) hHeld ?r7
  case y7 => (intro w hSw; (try dsimp only at hSw); go_simp; (try with_reducible rfl))
  try simp only [Act.put, List.setIfInBounds_toArray, List.set_cons_zero, List.set_cons_succ]
  refine wpAnyH_take (i := 8) (oi := { dst := some 48, op := Op.load 44 (Operand.tmp 47), type := 44, pos := "law.go:76", after := #[{ on := 7, ground := Ground.data }, { on := 2, ground := Ground.guard }], guard := some (2, false) }) (v := ?v8) rfl (by kernel_rfl) (by kernel_rfl) (by kernel_rfl) (fun _ _ _ h => h) (Or.inl ⟨by rfl, ?y8⟩) hHeld ?r8
  case y8 => (intro w hSw; (try dsimp only at hSw); go_simp; (try with_reducible rfl))
  try simp only [Act.put, List.setIfInBounds_toArray, List.set_cons_zero, List.set_cons_succ]
  refine wpAnyH_ready (rs := [6]) (by kernel_rfl) (by simp) ?_
  refine AllReadyH.cons (o := { dst := some 46, op := Op.call { callee := Callee.value (Operand.func 40), args := #[], argTypes := #[] }, type := 47, pos := "law.go:76", after := #[{ on := 2, ground := Ground.chain }, { on := 2, ground := Ground.guard }], guard := some (2, false) }) rfl (fun K hK => ?_) AllReadyH.nil
  go_simp
  (with_reducible refine (CRO.out _).mono ?_)
  rintro e wx ⟨rfl, k⟩
  show K _ _
  obtain ⟨k, rb⟩ := k
  have r1 : wx.cell? ⟨W3.heap.size, 40, none⟩ = some (.string y) := (rb.cell 40).trans HK.out
  clear rb
  have lx := L3.out.later k (by first | exact Keeps.refl _ [] | exact (Keeps.refl _ []).drew)
  have ar := blk_later AR.out k (by first | exact Keeps.refl _ [] | exact (Keeps.refl _ []).drew)
  clear k c0 c1 c2 c3 c4 c5 L3 AR
  obtain ⟨c0, c1, c2, c3, c4, c5⟩ := lx.cells
  have L3 := kept lx
  have AR := kept ar
  clear lx ar
  clear hHeld
  refine hK.out _ _ ?hS6 (fun hHeld => ?_)
  case hS6 => exact ⟨c0, c2⟩
  clear hK K
  try simp only [Act.put, List.setIfInBounds_toArray, List.set_cons_zero, List.set_cons_succ]
  refine wpAnyH_take (i := 9) (oi := { dst := some 49, op := Op.indexAddr 47 (Operand.tmp 46) (Operand.tmp 48), type := 0, pos := "law.go:76", after := #[{ on := 6, ground := Ground.data }, { on := 8, ground := Ground.data }, { on := 2, ground := Ground.guard }], guard := some (2, false) }) (v := ?v9) rfl (by kernel_rfl) (by kernel_rfl) (by kernel_rfl) (fun _ _ _ h => h) (Or.inl ⟨by rfl, ?y9⟩) hHeld ?r9
  case y9 => (intro w hSw; (try dsimp only at hSw); go_simp; (try with_reducible rfl))
  try simp only [Act.put, List.setIfInBounds_toArray, List.set_cons_zero, List.set_cons_succ]
  refine wpAnyH_take (i := 10) (oi := { dst := some 50, op := Op.fieldAddr 50 (Operand.tmp 49) 1, type := 0, pos := "law.go:76", after := #[{ on := 9, ground := Ground.data }, { on := 2, ground := Ground.guard }], guard := some (2, false) }) (v := ?v10) rfl (by kernel_rfl) (by kernel_rfl) (by kernel_rfl) (fun _ _ _ h => h) (Or.inl ⟨by rfl, ?y10⟩) hHeld ?r10
  case y10 => (intro w hSw; (try dsimp only at hSw); go_simp; (try with_reducible rfl))
  try simp only [Act.put, List.setIfInBounds_toArray, List.set_cons_zero, List.set_cons_succ]
  refine wpAnyH_ready (rs := [11]) (by kernel_rfl) (by simp) ?_
  refine AllReadyH.cons (o := { dst := some 51, op := Op.load 9 (Operand.tmp 50), type := 9, pos := "law.go:76", after := #[{ on := 10, ground := Ground.data }, { on := 2, ground := Ground.guard }], guard := some (2, false) }) rfl (fun K hK => ?_) AllReadyH.nil
  go_simp
  clear hHeld
  refine hK.out _ _ ?hS11 (fun hHeld => ?_)
  case hS11 => exact ⟨c0, c2⟩
  clear hK K
  try simp only [Act.put, List.setIfInBounds_toArray, List.set_cons_zero, List.set_cons_succ]
  refine wpAnyH_take (i := 12) (oi := { dst := some 52, op := Op.call { callee := Callee.builtin Builtin.len, args := #[Operand.tmp 51], argTypes := #[9] }, type := 3, pos := "law.go:76", after := #[{ on := 11, ground := Ground.data }, { on := 2, ground := Ground.guard }], guard := some (2, false) }) (v := ?v12) rfl (by kernel_rfl) (by kernel_rfl) (by kernel_rfl) (fun _ _ _ h => h) (Or.inl ⟨by rfl, ?y12⟩) hHeld ?r12
  case y12 => (intro w hSw; (try dsimp only at hSw); go_simp; (try with_reducible rfl))
  try simp only [Act.put, List.setIfInBounds_toArray, List.set_cons_zero, List.set_cons_succ]
  refine wpAnyH_take (i := 13) (oi := { dst := some 53, op := Op.binOp BinOp.lss 3 (Operand.tmp 45) (Operand.tmp 52) 3, type := 4, pos := "law.go:76", after := #[{ on := 5, ground := Ground.data }, { on := 12, ground := Ground.data }, { on := 2, ground := Ground.guard }], guard := some (2, false) }) (v := ?v13) rfl (by kernel_rfl) (by kernel_rfl) (by kernel_rfl) (fun _ _ _ h => h) (Or.inl ⟨by rfl, ?y13⟩) hHeld ?r13
  case y13 => (intro w hSw; (try dsimp only at hSw); go_simp; (try with_reducible rfl))
  try simp only [Act.put, List.setIfInBounds_toArray, List.set_cons_zero, List.set_cons_succ]
  refine wpAnyH_take (i := 14) (oi := { dst := some 54, op := Op.pick (Operand.tmp 42) (Operand.const (Value.bool true)) (Operand.tmp 53), type := 4, pos := "law.go:76", after := #[{ on := 2, ground := Ground.data }, { on := 13, ground := Ground.data }], guard := none }) (v := ?v14) rfl (by kernel_rfl) (by kernel_rfl) (by kernel_rfl) (fun _ _ _ h => h) (Or.inl ⟨by rfl, ?y14⟩) hHeld ?r14
  case y14 => (intro w hSw; (try dsimp only at hSw); go_simp; (try with_reducible rfl))
  try simp only [Act.put, List.setIfInBounds_toArray, List.set_cons_zero, List.set_cons_succ]
  refine wpAnyH_done (by kernel_rfl) ?_ _
  refine NoPanic.normal ?_
  have RZ : Hid (Rz w wx ga ca 2 0 0 z 13 dst num (.slice (some ⟨b, off, none⟩) len cap)) := ⟨L3.out, cur, AR.out, HCS.out, fun i hi => by
    have hg : (cur.toList.take 2)[i]? = cur.toList[i]? := by rw [List.getElem?_take, if_pos hi]
    rw [if_neg (Nat.not_lt_zero _), ← Array.getElem?_toList, ← hg, HCT.out]
    match i, hi with
    | 0, _ => rfl
    | 1, _ => rfl
    | n + 2, h => exact absurd h (by omega)⟩
  clear L3 AR HCT HCS c0 c1 c2 c3 c4 c5
  go_wp2
  go_loopw [92] (fun i wr => ∃ j : Nat, j ≤ 2 ∧ i = .int .i64 j ∧ Rz w wr ga ca 2 0 j z 13 dst num (.slice (some ⟨b, off, none⟩) len cap)) (fun i _ => 2 - (intOf i).toNat)
  case atStart => exact ⟨0, by omega, rfl, RZ.out⟩
  case round =>
    obtain ⟨j, hj, rfl, hR⟩ := hrel
    have RZ := kept hR
    clear hR
    by_cases hlt : j < 2
    · obtain ⟨a0, a1⟩ := RZ.out.at hlt
      have a2 : wr.cell? ⟨b, off + j, none⟩ = some (.int .i64 (z (0 + j))) := by
        have := RZ.out.lb.keeps.cellOf (HZ.out (0 + j) (by omega))
        simpa [Nat.add_assoc] using this
      generalize hzj : z (0 + j) = zj at *
      have HZJ := kept hzj
      clear hzj
      go_wp2
      go_quiet (fail)
      have rz := RZ.out.step hlt HCA.out HGA.out ((Keeps.refl wr []).drewN nq)
      rw [HZJ.out] at rz
      go_wp2
      go_roundw
      case rel => exact ⟨j + 1, by omega, by go_num, rz⟩
      case measure => simp [intOf]; omega
    · obtain rfl : j = 2 := by omega
      clear hj hlt
      obtain ⟨c0, c1, c2, c3, c4, c5⟩ := RZ.out.lb.cells
      go_wp2_with fail
      refine (all60 _).mono ?_
      rintro e w6 ⟨rfl, rfl⟩
      have hn0 := cell_new_l wr (.int .i64 0) 3
      go_wp2_with fail
      refine (wpIn_wide (n := 5)).1 ?_
      refine' wpIn_rangeFunc_ownF rfl (by decide) (gf := 92) (lb := #[]) rfl trivial (enters_of Try.func92 (by kernel_rfl) rfl)
        (all_stops Fence.wide 4 trivial rfl (by decide) wr.heap.size _) belowK_t (belowK_b (by simp)) (Below.refl _ _) (fun _ => rfl)
        (fun pre W => (W.cell? ⟨wr.heap.size, 0, none⟩ = some (.int .i64 pre.length) ∧ W.frozen? ⟨wr.heap.size, 0, none⟩ = false) ∧ Below wr.heap.size (wr.alloc (.cells #[.int .i64 0] 3)) W)
        (fun c pre W => c = .ret ∧ ∃ p0 x, pre = p0 ++ [x] ∧ x ≠ (p0.length : Int))
        (OwnFrom.and (Own.from (fun s A B row hs hg hr => ⟨cell_kept hs.1 hg hr, (frozen_kept hs.1 hg hr).trans hs.2⟩) _) (ownFrom_below (by simp) (by simp)))
        (fun c => Own.from (fun s A B row hs hg hr => hs) _)
        ⟨hn0, Below.refl _ _⟩ _ ?assign ?body ?done ?stop
      case assign =>
        intro l x W K hK
        gi_wp2
        exact hK
      case body =>
        rintro l pre x W ⟨⟨hn1, hn2⟩, hBW⟩ _
        have hWsz := hBW.size
        have hr1 : W.cell? ⟨w.heap.size + 1, 0, none⟩ = some (.bool false) := by
          have hlt := RZ.out.lb.res.lt
          have h1 := hBW.block (w.heap.size + 1) hlt
          have h2 : (wr.alloc (.cells #[.int .i64 0] 3)).heap[w.heap.size + 1]? = wr.heap[w.heap.size + 1]? := Below.heap_alloc wr _ _ hlt
          rw [← c4]; simp only [World.cell?]; rw [h1, h2]
        have hr2 : W.frozen? ⟨w.heap.size + 1, 0, none⟩ = false := by
          have hlt := RZ.out.lb.res.lt
          have h1 := hBW.block (w.heap.size + 1) hlt
          have h2 : (wr.alloc (.cells #[.int .i64 0] 3)).heap[w.heap.size + 1]? = wr.heap[w.heap.size + 1]? := Below.heap_alloc wr _ _ hlt
          rw [← c5]; simp only [World.frozen?]; rw [h1, h2]
        by_cases hx : x = (pre.length : Int)
        · have hb : (x != (pre.length : Int)) = false := by simp [hx]
          have HX := kept hx
          clear hx
          gi_wp2
          have el : (((pre ++ [x]).length : Nat) : Int) = (pre.length : Int) + 1 := by simp
          exact ⟨KeepsOthers.setCell _ _ _, (Below.refl wr.heap.size W).setCell (p := ⟨wr.heap.size, 0, none⟩) (Nat.le_refl _) _, ⟨by rw [el]; exact World.cell?_setCell_same' _ _ _ (by rw [hn1]; rfl), by rw [World.frozen?_setCell]; exact hn2⟩, hBW.setCell (p := ⟨wr.heap.size, 0, none⟩) (Nat.le_refl _) _⟩
        · have hb : (x != (pre.length : Int)) = true := by simp [hx]
          have HX := kept hx
          clear hx
          gi_wp2
          exact ⟨KeepsOthers.setCell _ _ _, rfl, pre, x, rfl, HX.out⟩
      case done =>
        rintro D ys W hD rfl ⟨⟨hn1, hn2⟩, hBW⟩ hK
        have k6 : Keeps wr W [] := ⟨hBW.os, hBW.tape, hBW.output, Nat.le_trans (by simp) hBW.size, fun i hi _ => (hBW.block i hi).trans (Below.heap_alloc wr _ i hi)⟩
        have hn : W.cell? ⟨wr.heap.size, 0, none⟩ = some (.int .i64 27) := by rw [opsUpto_length] at hn1; exact hn1
        have HD := kept hD
        have HWR := kept (show w.heap.size + 1 < wr.heap.size from RZ.out.lb.res.lt)
        have l7 := RZ.out.lb.next k6
        have r7 : W.heap.size ≥ wr.heap.size := k6.size
        have HW7 := kept r7
        clear hn1 hn2 hBW k6 RZ c0 c1 c2 c3 c4 c5 hn0 hD r7
        have L7 := kept l7
        clear l7
        have HKD := kept hK
        clear hK
        obtain ⟨c0, c1, c2, c3, c4, c5⟩ := L7.out.cells
        go_wp2_with fail
        refine (CN.out _ (fun i hi => L7.out.keeps.cellOf (HZ.out i hi))).mono ?_
        rintro e W8 ⟨v2, rfl, ho, k⟩
        obtain ⟨g2, cb, rfl, hg2, hcell2⟩ : ∃ g2 cb, v2 = .slice (some ⟨g2, 0, none⟩) 2 cb ∧ W.heap.size ≤ g2 ∧ W8.cell? ⟨g2, 0, none⟩ = some (.int .i64 (z 0)) := by
          rcases ho.2 with ⟨_, h0⟩ | ⟨g, cp, cur2, h1, h2, h3, h4, h5, h6, h7⟩
          · exact absurd h0 (by decide)
          · refine ⟨g, cp, h1, h2, ?_⟩
            have hb2 : Blk W8 g 3 cur2 := h3
            rw [hb2.cell 0]
            have e1 : (cur2.toList.take (2 * 1))[0]? = cur2.toList[0]? := by rw [List.getElem?_take, if_pos (by decide)]
            rw [← Array.getElem?_toList, ← e1, h7]
            rfl
        have l8 := L7.out.next k
        have n1 := k.cellOf hn
        have n2 := hcell2
        have n3 : W8.cell? ⟨b, off, none⟩ = some (.int .i64 (z 0)) := l8.keeps.cellOf (HZ.out 0 (by omega))
        have HKE := kept (obj_keep HKD.out k)
        have HE1 : Hid (wr.heap.size ≠ w.heap.size + 1) := fun e => by have := HWR.out; omega
        have HE2 : Hid (g2 ≠ w.heap.size + 1) := fun e => by have := HWR.out; have := HW7.out; omega
        have HE3 : Hid (b ≠ w.heap.size + 1) := fun e => by
          have := World.block_lt_of_cell? w _ (HZ.out 0 (by omega))
          simp at this
          omega
        clear k L7 c0 c1 c2 c3 c4 c5 ho hn hcell2 hg2 HKD
        have L8 := kept l8
        clear l8
        obtain ⟨c0, c1, c2, c3, c4, c5⟩ := L8.out.cells
        generalize z 0 = z0 at *
        go_wp2_with fail
        refine wp_region_noPanic ?_
        refine wp_region_held_drew (S := (fun w' => w'.cell? ⟨wr.heap.size, 0, none⟩ = some (.int .i64 27) ∧ w'.cell? ⟨g2, 0, none⟩ = some (.int .i64 z0) ∧ w'.cell? ⟨b, off, none⟩ = some (.int .i64 z0))) (by kernel_rfl) ?qhSs (fun hHeld => ?_)
        case qhSs => exact ⟨n1, n2, n3⟩
        refine wpAnyH_take (i := 0) (oi := { dst := some 124, op := Op.load 3 (Operand.tmp 11), type := 3, pos := "law.go:105", after := #[], guard := none }) (v := ?qv0) rfl (by kernel_rfl) (by kernel_rfl) (by kernel_rfl) (fun _ _ _ h => h) (Or.inl ⟨by rfl, ?qy0⟩) hHeld ?qr0
        case qy0 => (intro w hSw; (try dsimp only at hSw); go_simp; (try with_reducible rfl))
        try simp only [Act.put, List.setIfInBounds_toArray, List.set_cons_zero, List.set_cons_succ]
        refine wpAnyH_ready (rs := [1]) (by kernel_rfl) (by simp) ?_
        refine AllReadyH.cons (o := { dst := some 125, op := Op.call { callee := Callee.value (Operand.func 40), args := #[], argTypes := #[] }, type := 47, pos := "law.go:105", after := #[], guard := none }) rfl (fun K hK => ?_) AllReadyH.nil
        go_simp
        (with_reducible refine (CRO.out _).mono ?_)
        rintro e wx ⟨rfl, k⟩
        show K _ _
        obtain ⟨k, rb⟩ := k
        clear rb
        have lx := L8.out.later k (by first | exact Keeps.refl _ [] | exact (Keeps.refl _ []).drew)
        replace n1 := cell_later n1 k (by first | exact Keeps.refl _ [] | exact (Keeps.refl _ []).drew)
        replace n2 := cell_later n2 k (by first | exact Keeps.refl _ [] | exact (Keeps.refl _ []).drew)
        replace n3 := cell_later n3 k (by first | exact Keeps.refl _ [] | exact (Keeps.refl _ []).drew)
        replace HKE := kept (obj_later HKE.out k (by first | exact Keeps.refl _ [] | exact (Keeps.refl _ []).drew))
        clear k c0 c1 c2 c3 c4 c5 L8
        have L8 := kept lx
        clear lx
        obtain ⟨c0, c1, c2, c3, c4, c5⟩ := L8.out.cells
        clear hHeld
        refine hK.out _ _ ?qhS1 (fun hHeld => ?_)
        case qhS1 => exact ⟨n1, n2, n3⟩
        clear hK K
        try simp only [Act.put, List.setIfInBounds_toArray, List.set_cons_zero, List.set_cons_succ]
        refine wpAnyH_take (i := 2) (oi := { dst := some 126, op := Op.call { callee := Callee.builtin Builtin.len, args := #[Operand.tmp 125], argTypes := #[47] }, type := 3, pos := "law.go:105", after := #[{ on := 1, ground := Ground.data }], guard := none }) (v := ?qv2) rfl (by kernel_rfl) (by kernel_rfl) (by kernel_rfl) (fun _ _ _ h => h) (Or.inl ⟨by rfl, ?qy2⟩) hHeld ?qr2
        case qy2 => (intro w hSw; (try dsimp only at hSw); go_simp; (try with_reducible rfl))
        try simp only [Act.put, List.setIfInBounds_toArray, List.set_cons_zero, List.set_cons_succ]
        refine wpAnyH_take (i := 3) (oi := { dst := some 127, op := Op.binOp BinOp.eql 3 (Operand.tmp 124) (Operand.tmp 126) 3, type := 4, pos := "law.go:105", after := #[{ on := 0, ground := Ground.data }, { on := 2, ground := Ground.data }], guard := none }) (v := ?qv3) rfl (by kernel_rfl) (by kernel_rfl) (by kernel_rfl) (fun _ _ _ h => h) (Or.inl ⟨by rfl, ?qy3⟩) hHeld ?qr3
        case qy3 => (intro w hSw; (try dsimp only at hSw); go_simp; (try with_reducible rfl))
        try simp only [Act.put, List.setIfInBounds_toArray, List.set_cons_zero, List.set_cons_succ]
        refine wpAnyH_take (i := 4) (oi := { dst := some 128, op := Op.move (Operand.tmp 127), type := 4, pos := "law.go:105", after := #[{ on := 3, ground := Ground.data }, { on := 1, ground := Ground.chain }], guard := none }) (v := ?qv4) rfl (by kernel_rfl) (by kernel_rfl) (by kernel_rfl) (fun _ _ _ h => h) (Or.inl ⟨by rfl, ?qy4⟩) hHeld ?qr4
        case qy4 => (intro w hSw; (try dsimp only at hSw); go_simp; (try with_reducible rfl))
        try simp only [Act.put, List.setIfInBounds_toArray, List.set_cons_zero, List.set_cons_succ]
        refine wpAnyH_take (i := 5) (oi := { dst := some 129, op := Op.move (Operand.tmp 14), type := 58, pos := "law.go:105", after := #[{ on := 4, ground := Ground.guard }], guard := some (4, true) }) (v := ?qv5) rfl (by kernel_rfl) (by kernel_rfl) (by kernel_rfl) (fun _ _ _ h => h) (Or.inl ⟨by rfl, ?qy5⟩) hHeld ?qr5
        case qy5 => (intro w hSw; (try dsimp only at hSw); go_simp; (try with_reducible rfl))
        try simp only [Act.put, List.setIfInBounds_toArray, List.set_cons_zero, List.set_cons_succ]
        refine wpAnyH_take (i := 6) (oi := { dst := some 130, op := Op.indexAddr 58 (Operand.tmp 129) (Operand.const (Value.int IntKind.i64 0)), type := 0, pos := "law.go:105", after := #[{ on := 5, ground := Ground.data }, { on := 4, ground := Ground.guard }], guard := some (4, true) }) (v := ?qv6) rfl (by kernel_rfl) (by kernel_rfl) (by kernel_rfl) (fun _ _ _ h => h) (Or.inl ⟨by rfl, ?qy6⟩) hHeld ?qr6
        case qy6 => (intro w hSw; (try dsimp only at hSw); go_simp; (try with_reducible rfl))
        try simp only [Act.put, List.setIfInBounds_toArray, List.set_cons_zero, List.set_cons_succ]
        refine wpAnyH_take (i := 7) (oi := { dst := some 131, op := Op.load 3 (Operand.tmp 130), type := 3, pos := "law.go:105", after := #[{ on := 6, ground := Ground.data }, { on := 4, ground := Ground.guard }], guard := some (4, true) }) (v := ?qv7) rfl (by kernel_rfl) (by kernel_rfl) (by kernel_rfl) (fun _ _ _ h => h) (Or.inl ⟨by rfl, ?qy7⟩) hHeld ?qr7
        case qy7 => (intro w hSw; (try dsimp only at hSw); go_simp; (try with_reducible rfl))
        try simp only [Act.put, List.setIfInBounds_toArray, List.set_cons_zero, List.set_cons_succ]
        refine wpAnyH_take (i := 8) (oi := { dst := some 132, op := Op.move (Operand.tmp 9), type := 58, pos := "law.go:105", after := #[{ on := 4, ground := Ground.guard }], guard := some (4, true) }) (v := ?qv8) rfl (by kernel_rfl) (by kernel_rfl) (by kernel_rfl) (fun _ _ _ h => h) (Or.inl ⟨by rfl, ?qy8⟩) hHeld ?qr8
        case qy8 => (intro w hSw; (try dsimp only at hSw); go_simp; (try with_reducible rfl))
        try simp only [Act.put, List.setIfInBounds_toArray, List.set_cons_zero, List.set_cons_succ]
        refine wpAnyH_take (i := 9) (oi := { dst := some 133, op := Op.indexAddr 58 (Operand.tmp 132) (Operand.const (Value.int IntKind.i64 0)), type := 0, pos := "law.go:105", after := #[{ on := 8, ground := Ground.data }, { on := 4, ground := Ground.guard }], guard := some (4, true) }) (v := ?qv9) rfl (by kernel_rfl) (by kernel_rfl) (by kernel_rfl) (fun _ _ _ h => h) (Or.inl ⟨by rfl, ?qy9⟩) hHeld ?qr9
        case qy9 => (intro w hSw; (try dsimp only at hSw); go_simp; (try with_reducible rfl))
        try simp only [Act.put, List.setIfInBounds_toArray, List.set_cons_zero, List.set_cons_succ]
        refine wpAnyH_take (i := 10) (oi := { dst := some 134, op := Op.load 3 (Operand.tmp 133), type := 3, pos := "law.go:105", after := #[{ on := 9, ground := Ground.data }, { on := 4, ground := Ground.guard }], guard := some (4, true) }) (v := ?qv10) rfl (by kernel_rfl) (by kernel_rfl) (by kernel_rfl) (fun _ _ _ h => h) (Or.inl ⟨by rfl, ?qy10⟩) hHeld ?qr10
        case qy10 => (intro w hSw; (try dsimp only at hSw); go_simp; (try with_reducible rfl))
        try simp only [Act.put, List.setIfInBounds_toArray, List.set_cons_zero, List.set_cons_succ]
        refine wpAnyH_take (i := 11) (oi := { dst := some 135, op := Op.binOp BinOp.eql 3 (Operand.tmp 131) (Operand.tmp 134) 3, type := 4, pos := "law.go:105", after := #[{ on := 7, ground := Ground.data }, { on := 10, ground := Ground.data }, { on := 4, ground := Ground.guard }], guard := some (4, true) }) (v := ?qv11) rfl (by kernel_rfl) (by kernel_rfl) (by kernel_rfl) (fun _ _ _ h => h) (Or.inl ⟨by rfl, ?qy11⟩) hHeld ?qr11
        case qy11 => (intro w hSw; (try dsimp only at hSw); go_simp; (try with_reducible rfl))
        try simp only [Act.put, List.setIfInBounds_toArray, List.set_cons_zero, List.set_cons_succ]
        refine wpAnyH_take (i := 12) (oi := { dst := some 136, op := Op.pick (Operand.tmp 128) (Operand.tmp 135) (Operand.const (Value.bool false)), type := 4, pos := "law.go:105", after := #[{ on := 4, ground := Ground.data }, { on := 11, ground := Ground.data }], guard := none }) (v := ?qv12) rfl (by kernel_rfl) (by kernel_rfl) (by kernel_rfl) (fun _ _ _ h => h) (Or.inl ⟨by rfl, ?qy12⟩) hHeld ?qr12
        case qy12 => (intro w hSw; (try dsimp only at hSw); go_simp; (try with_reducible rfl))
        try simp only [Act.put, List.setIfInBounds_toArray, List.set_cons_zero, List.set_cons_succ]
        refine wpAnyH_ready (rs := [13]) (by kernel_rfl) (by simp) ?_
        refine AllReadyH.cons (o := { dst := none, op := Op.store 4 (Operand.tmp 2) (Operand.tmp 136), type := 0, pos := "law.go:105", after := #[{ on := 12, ground := Ground.data }, { on := 4, ground := Ground.chain }, { on := 0, ground := Ground.phase }, { on := 1, ground := Ground.phase }, { on := 2, ground := Ground.phase }, { on := 3, ground := Ground.phase }, { on := 4, ground := Ground.phase }, { on := 5, ground := Ground.phase }, { on := 6, ground := Ground.phase }, { on := 7, ground := Ground.phase }, { on := 8, ground := Ground.phase }, { on := 9, ground := Ground.phase }, { on := 10, ground := Ground.phase }, { on := 11, ground := Ground.phase }, { on := 12, ground := Ground.phase }], guard := none }) rfl (fun K hK => ?_) AllReadyH.nil
        go_simp
        clear hHeld
        refine hK.out _ _ ?qhS13 (fun hHeld => ?_)
        case qhS13 => exact ⟨cell_set_other HE1.out n1, cell_set_other HE2.out n2, cell_set_other HE3.out n3⟩
        clear hK K
        try simp only [Act.put, List.setIfInBounds_toArray, List.set_cons_zero, List.set_cons_succ]
        refine wpAnyH_done (by kernel_rfl) ?_ _
        refine NoPanic.normal ?_
        go_wp2
        have l9 := L8.out.lay true
        have hK' := (KeepsOthers.setCell wx ⟨w.heap.size + 1, 0, none⟩ (.bool true)).same D _ HKE.out rfl
        refine ⟨by simp, .inl ⟨_, _, rfl, run_takeDeferred hK', ?_⟩⟩
        have hc5 := cell_kept (l9.res.cell 0) (grownBy_putObj' _ D (.deferred none)) (fun r e => by cases e; exact ⟨_, hK', rfl⟩)
        refine ⟨.bool true, ?_, rfl, (l9.keeps.below (Nat.le_refl _) (by simp)).trans (belowK_b (w := w) (Nat.le_refl _) _ D _ _ (by have h1 := HD.out; have h2 := HWR.out; rw [World.size_alloc] at h1; omega) hK' rfl rfl)⟩
        simp [results, Try.f14, go_sem, hc5]
      case stop =>
        rintro D c pre W hD ⟨q, hq, hpre⟩ ⟨rfl, p0, x, hp, hx⟩ hK
        rw [hp] at hpre
        obtain ⟨jj, rfl, rfl, rfl⟩ := opsUpto_inv hpre
        rw [opsUpto_length] at hx
        exact absurd rfl hx

set_option maxRecDepth 100000 in
set_option maxHeartbeats 16000000 in
theorem need_yes14 (dst num : Int) (b off : Nat) (len cap : Nat) (h : 3 ≤ len) (h10 : len ≤ 10) (hc : len ≤ cap) (hm : cap ≤ maxLen) (z : Nat → Int) (w : World) (hz : ∀ i, i < len → w.cell? ⟨b, off + i, none⟩ = some (.int .i64 (z i))) :
    Calls Try.prog 14 #[.agg #[.int .i64 14, .int .i64 dst, .slice (some ⟨b, off, none⟩) len cap, .int .i64 num]] w fun e w' => e = .returned (.bool true) ∧ Below w.heap.size w w' := by
  have hd : decide (10 < (len : Int)) = false := by simp; omega
  have hd2 : decide ((len : Int) < 3) = false := by simp; omega
  have CRO := kept rows_k
  have CN := kept (fun w hz => needs_yes14 dst num b off len cap h hc hm z w hz)
  have HZ := kept hz
  clear hz
  obtain ⟨y, hy⟩ : ∃ y, ktakes 14 = y := ⟨_, rfl⟩
  have hys : y.size = 3 := by rw [← hy]; rfl
  have HK : Hid (kcells[43]? = some (.string y)) := by rw [← hy]; exact (kcell 14 (by decide)).2.1
  clear hy
  have L0 : Hid (LB w ((w.alloc (.cells #[.int .i64 14, .int .i64 dst, .slice (some ⟨b, off, none⟩) len cap, .int .i64 num] 77)).alloc (.cells #[.bool false] 4)) 14 dst num (.slice (some ⟨b, off, none⟩) len cap) false) := LB.start
  refine (callsIn_wide (n := 5)).1 ?_
  refine callsIn_of_wp_marks Try.func14 rfl trivial ?_ rfl
  refine wpIn_wide.2 ?_
  simp only [Try.ntmps14, List.size_toArray, List.length_cons, List.length_nil, Nat.reduceAdd, Nat.reduceSub, Array.replicate_succ, Array.replicate_zero, List.push_toArray, List.append_toArray, List.nil_append, List.cons_append]
  go_wp2_with fail
  generalize (w.alloc (.cells #[.int .i64 14, .int .i64 dst, .slice (some ⟨b, off, none⟩) len cap, .int .i64 num] 77)).alloc (.cells #[.bool false] 4) = W0 at *
  refine (opslives _).mono ?_
  rintro e W1 ⟨rfl, k⟩
  have l1 := L0.out.next k
  clear k L0
  have L1 := kept l1
  clear l1
  obtain ⟨c0, c1, c2, c3, c4, c5⟩ := L1.out.cells

  go_wp2_with fail
  refine (CN.out _ (fun i hi => L1.out.keeps.cellOf (HZ.out i hi))).mono ?_
  rintro e W2 ⟨v, rfl, ho, k⟩
  have hge1 := L1.out.ge
  obtain ⟨ga, ca, rfl, hga, hca, hcells⟩ : ∃ ga ca, v = .slice (some ⟨ga, 0, none⟩) 2 ca ∧ w.heap.size + 2 ≤ ga ∧ 2 ≤ ca ∧ ∃ cur, Blk W2 ga 3 cur ∧ cur.size = ca ∧ cur.toList.take 2 = [.int .i64 (z 0), .int .i64 (z 1)] := by
    rcases ho.2 with ⟨_, h0⟩ | ⟨g, cp, cur, h1, h2, h3, h4, h5, h6, h7⟩
    · exact absurd h0 (by decide)
    · exact ⟨g, cp, h1, by omega, h4, cur, h3, by simpa using h6, by simpa using h7⟩
  obtain ⟨cur, hcur, hcs, hct⟩ := hcells
  have AR := kept hcur
  have HCT := kept hct
  have HCS := kept hcs
  have HGA := kept hga
  have HCA := kept hca
  have l2 := L1.out.next k
  clear k L1 c0 c1 c2 c3 c4 c5 ho hcur hct hcs hga hca hge1
  have L2 := kept l2
  clear l2
  obtain ⟨c0, c1, c2, c3, c4, c5⟩ := L2.out.cells
  have MB := kept (World.alloc_heap_new W2 (.map #[] 0))
  have l3 := L2.out.next ((Keeps.refl W2 []).alloc (.map #[] 0))
  have ar := AR.out.keep ((Keeps.refl W2 []).alloc (.map #[] 0)) (by simp)
  have HG := kept L2.out.ge
  have HNE : Hid (ga ≠ W2.heap.size) := fun e => by have := AR.out.lt; omega
  clear L2 AR c0 c1 c2 c3 c4 c5
  have L3 := kept l3
  have AR := kept ar
  clear l3 ar
  have hmm := @run_makeMap Try.prog
  generalize hgm : W2.heap.size = gm at *
  go_upto_region 5 with (refine wpList_put _ rfl _ _ _ rfl gm _ _ _ _ rfl rfl rfl MB.out (by rfl) ?_; intro W3 mb km; replace L3 := kept (L3.out.nextB km HG.out); replace AR := kept (AR.out.keep km (by simp; exact HNE.out)); replace MB := kept mb; clear mb km)
  have hl := run_look _ _ _ _ MB.out 14 (some (3, .int .i64 18)) (by rfl)
  obtain ⟨c0, c1, c2, c3, c4, c5⟩ := L3.out.cells
  go_wp2_with fail
  clear hl MB hmm
  refine wp_region_noPanic ?_
  refine wp_region_held_drew (S := (fun w' => w'.cell? ⟨w.heap.size, 0, none⟩ = some (.int .i64 14) ∧ w'.cell? ⟨w.heap.size, 2, none⟩ = some (.slice (some ⟨b, off, none⟩) len cap))) (by kernel_rfl) ?hSs (fun hHeld => ?_)
  case hSs => exact ⟨c0, c2⟩
  refine wpAnyH_take (i := 0) (oi := { dst := some 40, op := Op.move (Operand.tmp 8), type := 4, pos := "law.go:76", after := #[], guard := none }) (v := ?v0) rfl (by kernel_rfl) (by kernel_rfl) (by kernel_rfl) (fun _ _ _ h => h) (Or.inl ⟨by rfl, ?y0⟩) hHeld ?r0
  case y0 => (intro w hSw; (try dsimp only at hSw); go_simp; (try with_reducible rfl))
  try simp only [Act.put, List.setIfInBounds_toArray, List.set_cons_zero, List.set_cons_succ]
  refine wpAnyH_take (i := 1) (oi := { dst := some 41, op := Op.unOp UnOp.not 4 (Operand.tmp 40), type := 4, pos := "law.go:76", after := #[{ on := 0, ground := Ground.data }], guard := none }) (v := ?v1) rfl (by kernel_rfl) (by kernel_rfl) (by kernel_rfl) (fun _ _ _ h => h) (Or.inl ⟨by rfl, ?y1⟩) hHeld ?r1
  case y1 => (intro w hSw; (try dsimp only at hSw); go_simp; (try with_reducible rfl))
  try simp only [Act.put, List.setIfInBounds_toArray, List.set_cons_zero, List.set_cons_succ]
  refine wpAnyH_take (i := 2) (oi := { dst := some 42, op := Op.move (Operand.tmp 41), type := 4, pos := "law.go:76", after := #[{ on := 1, ground := Ground.data }], guard := none }) (v := ?v2) rfl (by kernel_rfl) (by kernel_rfl) (by kernel_rfl) (fun _ _ _ h => h) (Or.inl ⟨by rfl, ?y2⟩) hHeld ?r2
  case y2 => (intro w hSw; (try dsimp only at hSw); go_simp; (try with_reducible rfl))
  try simp only [Act.put, List.setIfInBounds_toArray, List.set_cons_zero, List.set_cons_succ]
  refine wpAnyH_take (i := 3) (oi := { dst := some 43, op := Op.fieldAddr 77 (Operand.tmp 1) 2, type := 0, pos := "law.go:76", after := #[{ on := 2, ground := Ground.guard }], guard := some (2, false) }) (v := ?v3) rfl (by kernel_rfl) (by kernel_rfl) (by kernel_rfl) (fun _ _ _ h => h) (Or.inl ⟨by rfl, ?y3⟩) hHeld ?r3
  case y3 => (intro w hSw; (try dsimp only at hSw); go_simp; (try with_reducible rfl))
  try simp only [Act.put, List.setIfInBounds_toArray, List.set_cons_zero, List.set_cons_succ]
  refine wpAnyH_take (i := 4) (oi := { dst := some 44, op := Op.load 58 (Operand.tmp 43), type := 58, pos := "law.go:76", after := #[{ on := 3, ground := Ground.data }, { on := 2, ground := Ground.guard }], guard := some (2, false) }) (v := ?v4) rfl (by kernel_rfl) (by kernel_rfl) (by kernel_rfl) (fun _ _ _ h => h) (Or.inl ⟨by rfl, ?y4⟩) hHeld ?r4
  case y4 => (intro w hSw; (try dsimp only at hSw); go_simp; (try with_reducible rfl))
  try simp only [Act.put, List.setIfInBounds_toArray, List.set_cons_zero, List.set_cons_succ]
  refine wpAnyH_take (i := 5) (oi := { dst := some 45, op := Op.call { callee := Callee.builtin Builtin.len, args := #[Operand.tmp 44], argTypes := #[58] }, type := 3, pos := "law.go:76", after := #[{ on := 4, ground := Ground.data }, { on := 2, ground := Ground.guard }], guard := some (2, false) }) (v := ?v5) rfl (by kernel_rfl) (by kernel_rfl) (by kernel_rfl) (fun _ _ _ h => h) (Or.inl ⟨by rfl, ?y5⟩) hHeld ?r5
  case y5 => (intro w hSw; (try dsimp only at hSw); go_simp; (try with_reducible rfl))
  try simp only [Act.put, List.setIfInBounds_toArray, List.set_cons_zero, List.set_cons_succ]
  refine wpAnyH_take (i := 7) (oi := { dst := some 47, op := Op.fieldAddr 77 (Operand.tmp 1) 0, type := 0, pos := "law.go:76", after := #[{ on := 2, ground := Ground.guard }], guard := some (2, false) }) (v := ?v7) rfl (by kernel_rfl) (by kernel_rfl) (by kernel_rfl) (fun _ _ _ h => h) (Or.inl ⟨by rfl, ?y7⟩) hHeld ?r7
  case y7 => (intro w hSw; (try dsimp only at hSw); go_simp; (try with_reducible rfl))
  try simp only [Act.put, List.setIfInBounds_toArray, List.set_cons_zero, List.set_cons_succ]
  refine wpAnyH_take (i := 8) (oi := { dst := some 48, op := Op.load 44 (Operand.tmp 47), type := 44, pos := "law.go:76", after := #[{ on := 7, ground := Ground.data }, { on := 2, ground := Ground.guard }], guard := some (2, false) }) (v := ?v8) rfl (by kernel_rfl) (by kernel_rfl) (by kernel_rfl) (fun _ _ _ h => h) (Or.inl ⟨by rfl, ?y8⟩) hHeld ?r8
  case y8 => (intro w hSw; (try dsimp only at hSw); go_simp; (try with_reducible rfl))
  try simp only [Act.put, List.setIfInBounds_toArray, List.set_cons_zero, List.set_cons_succ]
  refine wpAnyH_ready (rs := [6]) (by kernel_rfl) (by simp) ?_
  refine AllReadyH.cons (o := { dst := some 46, op := Op.call { callee := Callee.value (Operand.func 40), args := #[], argTypes := #[] }, type := 47, pos := "law.go:76", after := #[{ on := 2, ground := Ground.chain }, { on := 2, ground := Ground.guard }], guard := some (2, false) }) rfl (fun K hK => ?_) AllReadyH.nil
  go_simp
  (with_reducible refine (CRO.out _).mono ?_)
  rintro e wx ⟨rfl, k⟩
  show K _ _
  obtain ⟨k, rb⟩ := k
  have r1 : wx.cell? ⟨W3.heap.size, 43, none⟩ = some (.string y) := (rb.cell 43).trans HK.out
  clear rb
  have lx := L3.out.later k (by first | exact Keeps.refl _ [] | exact (Keeps.refl _ []).drew)
  have ar := blk_later AR.out k (by first | exact Keeps.refl _ [] | exact (Keeps.refl _ []).drew)
  clear k c0 c1 c2 c3 c4 c5 L3 AR
  obtain ⟨c0, c1, c2, c3, c4, c5⟩ := lx.cells
  have L3 := kept lx
  have AR := kept ar
  clear lx ar
  clear hHeld
  refine hK.out _ _ ?hS6 (fun hHeld => ?_)
  case hS6 => exact ⟨c0, c2⟩
  clear hK K
  try simp only [Act.put, List.setIfInBounds_toArray, List.set_cons_zero, List.set_cons_succ]
  refine wpAnyH_take (i := 9) (oi := { dst := some 49, op := Op.indexAddr 47 (Operand.tmp 46) (Operand.tmp 48), type := 0, pos := "law.go:76", after := #[{ on := 6, ground := Ground.data }, { on := 8, ground := Ground.data }, { on := 2, ground := Ground.guard }], guard := some (2, false) }) (v := ?v9) rfl (by kernel_rfl) (by kernel_rfl) (by kernel_rfl) (fun _ _ _ h => h) (Or.inl ⟨by rfl, ?y9⟩) hHeld ?r9
  case y9 => (intro w hSw; (try dsimp only at hSw); go_simp; (try with_reducible rfl))
  try simp only [Act.put, List.setIfInBounds_toArray, List.set_cons_zero, List.set_cons_succ]
  refine wpAnyH_take (i := 10) (oi := { dst := some 50, op := Op.fieldAddr 50 (Operand.tmp 49) 1, type := 0, pos := "law.go:76", after := #[{ on := 9, ground := Ground.data }, { on := 2, ground := Ground.guard }], guard := some (2, false) }) (v := ?v10) rfl (by kernel_rfl) (by kernel_rfl) (by kernel_rfl) (fun _ _ _ h => h) (Or.inl ⟨by rfl, ?y10⟩) hHeld ?r10
  case y10 => (intro w hSw; (try dsimp only at hSw); go_simp; (try with_reducible rfl))
  try simp only [Act.put, List.setIfInBounds_toArray, List.set_cons_zero, List.set_cons_succ]
  refine wpAnyH_ready (rs := [11]) (by kernel_rfl) (by simp) ?_
  refine AllReadyH.cons (o := { dst := some 51, op := Op.load 9 (Operand.tmp 50), type := 9, pos := "law.go:76", after := #[{ on := 10, ground := Ground.data }, { on := 2, ground := Ground.guard }], guard := some (2, false) }) rfl (fun K hK => ?_) AllReadyH.nil
  go_simp
  clear hHeld
  refine hK.out _ _ ?hS11 (fun hHeld => ?_)
  case hS11 => exact ⟨c0, c2⟩
  clear hK K
  try simp only [Act.put, List.setIfInBounds_toArray, List.set_cons_zero, List.set_cons_succ]
  refine wpAnyH_take (i := 12) (oi := { dst := some 52, op := Op.call { callee := Callee.builtin Builtin.len, args := #[Operand.tmp 51], argTypes := #[9] }, type := 3, pos := "law.go:76", after := #[{ on := 11, ground := Ground.data }, { on := 2, ground := Ground.guard }], guard := some (2, false) }) (v := ?v12) rfl (by kernel_rfl) (by kernel_rfl) (by kernel_rfl) (fun _ _ _ h => h) (Or.inl ⟨by rfl, ?y12⟩) hHeld ?r12
  case y12 => (intro w hSw; (try dsimp only at hSw); go_simp; (try with_reducible rfl))
  try simp only [Act.put, List.setIfInBounds_toArray, List.set_cons_zero, List.set_cons_succ]
  refine wpAnyH_take (i := 13) (oi := { dst := some 53, op := Op.binOp BinOp.lss 3 (Operand.tmp 45) (Operand.tmp 52) 3, type := 4, pos := "law.go:76", after := #[{ on := 5, ground := Ground.data }, { on := 12, ground := Ground.data }, { on := 2, ground := Ground.guard }], guard := some (2, false) }) (v := ?v13) rfl (by kernel_rfl) (by kernel_rfl) (by kernel_rfl) (fun _ _ _ h => h) (Or.inl ⟨by rfl, ?y13⟩) hHeld ?r13
  case y13 => (intro w hSw; (try dsimp only at hSw); go_simp; (try with_reducible rfl))
  try simp only [Act.put, List.setIfInBounds_toArray, List.set_cons_zero, List.set_cons_succ]
  refine wpAnyH_take (i := 14) (oi := { dst := some 54, op := Op.pick (Operand.tmp 42) (Operand.const (Value.bool true)) (Operand.tmp 53), type := 4, pos := "law.go:76", after := #[{ on := 2, ground := Ground.data }, { on := 13, ground := Ground.data }], guard := none }) (v := ?v14) rfl (by kernel_rfl) (by kernel_rfl) (by kernel_rfl) (fun _ _ _ h => h) (Or.inl ⟨by rfl, ?y14⟩) hHeld ?r14
  case y14 => (intro w hSw; (try dsimp only at hSw); go_simp; (try with_reducible rfl))
  try simp only [Act.put, List.setIfInBounds_toArray, List.set_cons_zero, List.set_cons_succ]
  refine wpAnyH_done (by kernel_rfl) ?_ _
  refine NoPanic.normal ?_
  have RZ : Hid (Rz w wx ga ca 2 0 0 z 14 dst num (.slice (some ⟨b, off, none⟩) len cap)) := ⟨L3.out, cur, AR.out, HCS.out, fun i hi => by
    have hg : (cur.toList.take 2)[i]? = cur.toList[i]? := by rw [List.getElem?_take, if_pos hi]
    rw [if_neg (Nat.not_lt_zero _), ← Array.getElem?_toList, ← hg, HCT.out]
    match i, hi with
    | 0, _ => rfl
    | 1, _ => rfl
    | n + 2, h => exact absurd h (by omega)⟩
  clear L3 AR HCT HCS c0 c1 c2 c3 c4 c5
  go_wp2
  go_loopw [92] (fun i wr => ∃ j : Nat, j ≤ 2 ∧ i = .int .i64 j ∧ Rz w wr ga ca 2 0 j z 14 dst num (.slice (some ⟨b, off, none⟩) len cap)) (fun i _ => 2 - (intOf i).toNat)
  case atStart => exact ⟨0, by omega, rfl, RZ.out⟩
  case round =>
    obtain ⟨j, hj, rfl, hR⟩ := hrel
    have RZ := kept hR
    clear hR
    by_cases hlt : j < 2
    · obtain ⟨a0, a1⟩ := RZ.out.at hlt
      have a2 : wr.cell? ⟨b, off + j, none⟩ = some (.int .i64 (z (0 + j))) := by
        have := RZ.out.lb.keeps.cellOf (HZ.out (0 + j) (by omega))
        simpa [Nat.add_assoc] using this
      generalize hzj : z (0 + j) = zj at *
      have HZJ := kept hzj
      clear hzj
      go_wp2
      go_quiet (fail)
      have rz := RZ.out.step hlt HCA.out HGA.out ((Keeps.refl wr []).drewN nq)
      rw [HZJ.out] at rz
      go_wp2
      go_roundw
      case rel => exact ⟨j + 1, by omega, by go_num, rz⟩
      case measure => simp [intOf]; omega
    · obtain rfl : j = 2 := by omega
      clear hj hlt
      obtain ⟨c0, c1, c2, c3, c4, c5⟩ := RZ.out.lb.cells
      go_wp2_with fail
      refine (all60 _).mono ?_
      rintro e w6 ⟨rfl, rfl⟩
      have hn0 := cell_new_l wr (.int .i64 0) 3
      go_wp2_with fail
      refine (wpIn_wide (n := 5)).1 ?_
      refine' wpIn_rangeFunc_ownF rfl (by decide) (gf := 92) (lb := #[]) rfl trivial (enters_of Try.func92 (by kernel_rfl) rfl)
        (all_stops Fence.wide 4 trivial rfl (by decide) wr.heap.size _) belowK_t (belowK_b (by simp)) (Below.refl _ _) (fun _ => rfl)
        (fun pre W => (W.cell? ⟨wr.heap.size, 0, none⟩ = some (.int .i64 pre.length) ∧ W.frozen? ⟨wr.heap.size, 0, none⟩ = false) ∧ Below wr.heap.size (wr.alloc (.cells #[.int .i64 0] 3)) W)
        (fun c pre W => c = .ret ∧ ∃ p0 x, pre = p0 ++ [x] ∧ x ≠ (p0.length : Int))
        (OwnFrom.and (Own.from (fun s A B row hs hg hr => ⟨cell_kept hs.1 hg hr, (frozen_kept hs.1 hg hr).trans hs.2⟩) _) (ownFrom_below (by simp) (by simp)))
        (fun c => Own.from (fun s A B row hs hg hr => hs) _)
        ⟨hn0, Below.refl _ _⟩ _ ?assign ?body ?done ?stop
      case assign =>
        intro l x W K hK
        gi_wp2
        exact hK
      case body =>
        rintro l pre x W ⟨⟨hn1, hn2⟩, hBW⟩ _
        have hWsz := hBW.size
        have hr1 : W.cell? ⟨w.heap.size + 1, 0, none⟩ = some (.bool false) := by
          have hlt := RZ.out.lb.res.lt
          have h1 := hBW.block (w.heap.size + 1) hlt
          have h2 : (wr.alloc (.cells #[.int .i64 0] 3)).heap[w.heap.size + 1]? = wr.heap[w.heap.size + 1]? := Below.heap_alloc wr _ _ hlt
          rw [← c4]; simp only [World.cell?]; rw [h1, h2]
        have hr2 : W.frozen? ⟨w.heap.size + 1, 0, none⟩ = false := by
          have hlt := RZ.out.lb.res.lt
          have h1 := hBW.block (w.heap.size + 1) hlt
          have h2 : (wr.alloc (.cells #[.int .i64 0] 3)).heap[w.heap.size + 1]? = wr.heap[w.heap.size + 1]? := Below.heap_alloc wr _ _ hlt
          rw [← c5]; simp only [World.frozen?]; rw [h1, h2]
        by_cases hx : x = (pre.length : Int)
        · have hb : (x != (pre.length : Int)) = false := by simp [hx]
          have HX := kept hx
          clear hx
          gi_wp2
          have el : (((pre ++ [x]).length : Nat) : Int) = (pre.length : Int) + 1 := by simp
          exact ⟨KeepsOthers.setCell _ _ _, (Below.refl wr.heap.size W).setCell (p := ⟨wr.heap.size, 0, none⟩) (Nat.le_refl _) _, ⟨by rw [el]; exact World.cell?_setCell_same' _ _ _ (by rw [hn1]; rfl), by rw [World.frozen?_setCell]; exact hn2⟩, hBW.setCell (p := ⟨wr.heap.size, 0, none⟩) (Nat.le_refl _) _⟩
        · have hb : (x != (pre.length : Int)) = true := by simp [hx]
          have HX := kept hx
          clear hx
          gi_wp2
          exact ⟨KeepsOthers.setCell _ _ _, rfl, pre, x, rfl, HX.out⟩
      case done =>
        rintro D ys W hD rfl ⟨⟨hn1, hn2⟩, hBW⟩ hK
        have k6 : Keeps wr W [] := ⟨hBW.os, hBW.tape, hBW.output, Nat.le_trans (by simp) hBW.size, fun i hi _ => (hBW.block i hi).trans (Below.heap_alloc wr _ i hi)⟩
        have hn : W.cell? ⟨wr.heap.size, 0, none⟩ = some (.int .i64 27) := by rw [opsUpto_length] at hn1; exact hn1
        have HD := kept hD
        have HWR := kept (show w.heap.size + 1 < wr.heap.size from RZ.out.lb.res.lt)
        have l7 := RZ.out.lb.next k6
        have r7 : W.heap.size ≥ wr.heap.size := k6.size
        have HW7 := kept r7
        clear hn1 hn2 hBW k6 RZ c0 c1 c2 c3 c4 c5 hn0 hD r7
        have L7 := kept l7
        clear l7
        have HKD := kept hK
        clear hK
        obtain ⟨c0, c1, c2, c3, c4, c5⟩ := L7.out.cells
        go_wp2_with fail
        refine (CN.out _ (fun i hi => L7.out.keeps.cellOf (HZ.out i hi))).mono ?_
        rintro e W8 ⟨v2, rfl, ho, k⟩
        obtain ⟨g2, cb, rfl, hg2, hcell2⟩ : ∃ g2 cb, v2 = .slice (some ⟨g2, 0, none⟩) 2 cb ∧ W.heap.size ≤ g2 ∧ W8.cell? ⟨g2, 0, none⟩ = some (.int .i64 (z 0)) := by
          rcases ho.2 with ⟨_, h0⟩ | ⟨g, cp, cur2, h1, h2, h3, h4, h5, h6, h7⟩
          · exact absurd h0 (by decide)
          · refine ⟨g, cp, h1, h2, ?_⟩
            have hb2 : Blk W8 g 3 cur2 := h3
            rw [hb2.cell 0]
            have e1 : (cur2.toList.take (2 * 1))[0]? = cur2.toList[0]? := by rw [List.getElem?_take, if_pos (by decide)]
            rw [← Array.getElem?_toList, ← e1, h7]
            rfl
        have l8 := L7.out.next k
        have n1 := k.cellOf hn
        have n2 := hcell2
        have n3 : W8.cell? ⟨b, off, none⟩ = some (.int .i64 (z 0)) := l8.keeps.cellOf (HZ.out 0 (by omega))
        have HKE := kept (obj_keep HKD.out k)
        have HE1 : Hid (wr.heap.size ≠ w.heap.size + 1) := fun e => by have := HWR.out; omega
        have HE2 : Hid (g2 ≠ w.heap.size + 1) := fun e => by have := HWR.out; have := HW7.out; omega
        have HE3 : Hid (b ≠ w.heap.size + 1) := fun e => by
          have := World.block_lt_of_cell? w _ (HZ.out 0 (by omega))
          simp at this
          omega
        clear k L7 c0 c1 c2 c3 c4 c5 ho hn hcell2 hg2 HKD
        have L8 := kept l8
        clear l8
        obtain ⟨c0, c1, c2, c3, c4, c5⟩ := L8.out.cells
        generalize z 0 = z0 at *
        go_wp2_with fail
        refine wp_region_noPanic ?_
        refine wp_region_held_drew (S := (fun w' => w'.cell? ⟨wr.heap.size, 0, none⟩ = some (.int .i64 27) ∧ w'.cell? ⟨g2, 0, none⟩ = some (.int .i64 z0) ∧ w'.cell? ⟨b, off, none⟩ = some (.int .i64 z0))) (by kernel_rfl) ?qhSs (fun hHeld => ?_)
        case qhSs => exact ⟨n1, n2, n3⟩
        refine wpAnyH_take (i := 0) (oi := { dst := some 124, op := Op.load 3 (Operand.tmp 11), type := 3, pos := "law.go:105", after := #[], guard := none }) (v := ?qv0) rfl (by kernel_rfl) (by kernel_rfl) (by kernel_rfl) (fun _ _ _ h => h) (Or.inl ⟨by rfl, ?qy0⟩) hHeld ?qr0
        case qy0 => (intro w hSw; (try dsimp only at hSw); go_simp; (try with_reducible rfl))
        try simp only [Act.put, List.setIfInBounds_toArray, List.set_cons_zero, List.set_cons_succ]
        refine wpAnyH_ready (rs := [1]) (by kernel_rfl) (by simp) ?_
        refine AllReadyH.cons (o := { dst := some 125, op := Op.call { callee := Callee.value (Operand.func 40), args := #[], argTypes := #[] }, type := 47, pos := "law.go:105", after := #[], guard := none }) rfl (fun K hK => ?_) AllReadyH.nil
        go_simp
        (with_reducible refine (CRO.out _).mono ?_)
        rintro e wx ⟨rfl, k⟩
        show K _ _
        obtain ⟨k, rb⟩ := k
        clear rb
        have lx := L8.out.later k (by first | exact Keeps.refl _ [] | exact (Keeps.refl _ []).drew)
        replace n1 := cell_later n1 k (by first | exact Keeps.refl _ [] | exact (Keeps.refl _ []).drew)
        replace n2 := cell_later n2 k (by first | exact Keeps.refl _ [] | exact (Keeps.refl _ []).drew)
        replace n3 := cell_later n3 k (by first | exact Keeps.refl _ [] | exact (Keeps.refl _ []).drew)
        replace HKE := kept (obj_later HKE.out k (by first | exact Keeps.refl _ [] | exact (Keeps.refl _ []).drew))
        clear k c0 c1 c2 c3 c4 c5 L8
        have L8 := kept lx
        clear lx
        obtain ⟨c0, c1, c2, c3, c4, c5⟩ := L8.out.cells
        clear hHeld
        refine hK.out _ _ ?qhS1 (fun hHeld => ?_)
        case qhS1 => exact ⟨n1, n2, n3⟩
        clear hK K
        try simp only [Act.put, List.setIfInBounds_toArray, List.set_cons_zero, List.set_cons_succ]
        refine wpAnyH_take (i := 2) (oi := { dst := some 126, op := Op.call { callee := Callee.builtin Builtin.len, args := #[Operand.tmp 125], argTypes := #[47] }, type := 3, pos := "law.go:105", after := #[{ on := 1, ground := Ground.data }], guard := none }) (v := ?qv2) rfl (by kernel_rfl) (by kernel_rfl) (by kernel_rfl) (fun _ _ _ h => h) (Or.inl ⟨by rfl, ?qy2⟩) hHeld ?qr2
        case qy2 => (intro w hSw; (try dsimp only at hSw); go_simp; (try with_reducible rfl))
        try simp only [Act.put, List.setIfInBounds_toArray, List.set_cons_zero, List.set_cons_succ]
        refine wpAnyH_take (i := 3) (oi := { dst := some 127, op := Op.binOp BinOp.eql 3 (Operand.tmp 124) (Operand.tmp 126) 3, type := 4, pos := "law.go:105", after := #[{ on := 0, ground := Ground.data }, { on := 2, ground := Ground.data }], guard := none }) (v := ?qv3) rfl (by kernel_rfl) (by kernel_rfl) (by kernel_rfl) (fun _ _ _ h => h) (Or.inl ⟨by rfl, ?qy3⟩) hHeld ?qr3
        case qy3 => (intro w hSw; (try dsimp only at hSw); go_simp; (try with_reducible rfl))
        try simp only [Act.put, List.setIfInBounds_toArray, List.set_cons_zero, List.set_cons_succ]
        refine wpAnyH_take (i := 4) (oi := { dst := some 128, op := Op.move (Operand.tmp 127), type := 4, pos := "law.go:105", after := #[{ on := 3, ground := Ground.data }, { on := 1, ground := Ground.chain }], guard := none }) (v := ?qv4) rfl (by kernel_rfl) (by kernel_rfl) (by kernel_rfl) (fun _ _ _ h => h) (Or.inl ⟨by rfl, ?qy4⟩) hHeld ?qr4
        case qy4 => (intro w hSw; (try dsimp only at hSw); go_simp; (try with_reducible rfl))
        try simp only [Act.put, List.setIfInBounds_toArray, List.set_cons_zero, List.set_cons_succ]
        refine wpAnyH_take (i := 5) (oi := { dst := some 129, op := Op.move (Operand.tmp 14), type := 58, pos := "law.go:105", after := #[{ on := 4, ground := Ground.guard }], guard := some (4, true) }) (v := ?qv5) rfl (by kernel_rfl) (by kernel_rfl) (by kernel_rfl) (fun _ _ _ h => h) (Or.inl ⟨by rfl, ?qy5⟩) hHeld ?qr5
        case qy5 => (intro w hSw; (try dsimp only at hSw); go_simp; (try with_reducible rfl))
        try simp only [Act.put, List.setIfInBounds_toArray, List.set_cons_zero, List.set_cons_succ]
        refine wpAnyH_take (i := 6) (oi := { dst := some 130, op := Op.indexAddr 58 (Operand.tmp 129) (Operand.const (Value.int IntKind.i64 0)), type := 0, pos := "law.go:105", after := #[{ on := 5, ground := Ground.data }, { on := 4, ground := Ground.guard }], guard := some (4, true) }) (v := ?qv6) rfl (by kernel_rfl) (by kernel_rfl) (by kernel_rfl) (fun _ _ _ h => h) (Or.inl ⟨by rfl, ?qy6⟩) hHeld ?qr6
        case qy6 => (intro w hSw; (try dsimp only at hSw); go_simp; (try with_reducible rfl))
        try simp only [Act.put, List.setIfInBounds_toArray, List.set_cons_zero, List.set_cons_succ]
        refine wpAnyH_take (i := 7) (oi := { dst := some 131, op := Op.load 3 (Operand.tmp 130), type := 3, pos := "law.go:105", after := #[{ on := 6, ground := Ground.data }, { on := 4, ground := Ground.guard }], guard := some (4, true) }) (v := ?qv7) rfl (by kernel_rfl) (by kernel_rfl) (by kernel_rfl) (fun _ _ _ h => h) (Or.inl ⟨by rfl, ?qy7⟩) hHeld ?qr7
        case qy7 => (intro w hSw; (try dsimp only at hSw); go_simp; (try with_reducible rfl))
        try simp only [Act.put, List.setIfInBounds_toArray, List.set_cons_zero, List.set_cons_succ]
        refine wpAnyH_take (i := 8) (oi := { dst := some 132, op := Op.move (Operand.tmp 9), type := 58, pos := "law.go:105", after := #[{ on := 4, ground := Ground.guard }], guard := some (4, true) }) (v := ?qv8) rfl (by kernel_rfl) (by kernel_rfl) (by kernel_rfl) (fun _ _ _ h => h) (Or.inl ⟨by rfl, ?qy8⟩) hHeld ?qr8
        case qy8 => (intro w hSw; (try dsimp only at hSw); go_simp; (try with_reducible rfl))
        try simp only [Act.put, List.setIfInBounds_toArray, List.set_cons_zero, List.set_cons_succ]
        refine wpAnyH_take (i := 9) (oi := { dst := some 133, op := Op.indexAddr 58 (Operand.tmp 132) (Operand.const (Value.int IntKind.i64 0)), type := 0, pos := "law.go:105", after := #[{ on := 8, ground := Ground.data }, { on := 4, ground := Ground.guard }], guard := some (4, true) }) (v := ?qv9) rfl (by kernel_rfl) (by kernel_rfl) (by kernel_rfl) (fun _ _ _ h => h) (Or.inl ⟨by rfl, ?qy9⟩) hHeld ?qr9
        case qy9 => (intro w hSw; (try dsimp only at hSw); go_simp; (try with_reducible rfl))
        try simp only [Act.put, List.setIfInBounds_toArray, List.set_cons_zero, List.set_cons_succ]
        refine wpAnyH_take (i := 10) (oi := { dst := some 134, op := Op.load 3 (Operand.tmp 133), type := 3, pos := "law.go:105", after := #[{ on := 9, ground := Ground.data }, { on := 4, ground := Ground.guard }], guard := some (4, true) }) (v := ?qv10) rfl (by kernel_rfl) (by kernel_rfl) (by kernel_rfl) (fun _ _ _ h => h) (Or.inl ⟨by rfl, ?qy10⟩) hHeld ?qr10
        case qy10 => (intro w hSw; (try dsimp only at hSw); go_simp; (try with_reducible rfl))
        try simp only [Act.put, List.setIfInBounds_toArray, List.set_cons_zero, List.set_cons_succ]
        refine wpAnyH_take (i := 11) (oi := { dst := some 135, op := Op.binOp BinOp.eql 3 (Operand.tmp 131) (Operand.tmp 134) 3, type := 4, pos := "law.go:105", after := #[{ on := 7, ground := Ground.data }, { on := 10, ground := Ground.data }, { on := 4, ground := Ground.guard }], guard := some (4, true) }) (v := ?qv11) rfl (by kernel_rfl) (by kernel_rfl) (by kernel_rfl) (fun _ _ _ h => h) (Or.inl ⟨by rfl, ?qy11⟩) hHeld ?qr11
        case qy11 => (intro w hSw; (try dsimp only at hSw); go_simp; (try with_reducible rfl))
        try simp only [Act.put, List.setIfInBounds_toArray, List.set_cons_zero, List.set_cons_succ]
        refine wpAnyH_take (i := 12) (oi := { dst := some 136, op := Op.pick (Operand.tmp 128) (Operand.tmp 135) (Operand.const (Value.bool false)), type := 4, pos := "law.go:105", after := #[{ on := 4, ground := Ground.data }, { on := 11, ground := Ground.data }], guard := none }) (v := ?qv12) rfl (by kernel_rfl) (by kernel_rfl) (by kernel_rfl) (fun _ _ _ h => h) (Or.inl ⟨by rfl, ?qy12⟩) hHeld ?qr12
        case qy12 => (intro w hSw; (try dsimp only at hSw); go_simp; (try with_reducible rfl))
        try simp only [Act.put, List.setIfInBounds_toArray, List.set_cons_zero, List.set_cons_succ]
        refine wpAnyH_ready (rs := [13]) (by kernel_rfl) (by simp) ?_
        refine AllReadyH.cons (o := { dst := none, op := Op.store 4 (Operand.tmp 2) (Operand.tmp 136), type := 0, pos := "law.go:105", after := #[{ on := 12, ground := Ground.data }, { on := 4, ground := Ground.chain }, { on := 0, ground := Ground.phase }, { on := 1, ground := Ground.phase }, { on := 2, ground := Ground.phase }, { on := 3, ground := Ground.phase }, { on := 4, ground := Ground.phase }, { on := 5, ground := Ground.phase }, { on := 6, ground := Ground.phase }, { on := 7, ground := Ground.phase }, { on := 8, ground := Ground.phase }, { on := 9, ground := Ground.phase }, { on := 10, ground := Ground.phase }, { on := 11, ground := Ground.phase }, { on := 12, ground := Ground.phase }], guard := none }) rfl (fun K hK => ?_) AllReadyH.nil
        go_simp
        clear hHeld
        refine hK.out _ _ ?qhS13 (fun hHeld => ?_)
        case qhS13 => exact ⟨cell_set_other HE1.out n1, cell_set_other HE2.out n2, cell_set_other HE3.out n3⟩
        clear hK K
        try simp only [Act.put, List.setIfInBounds_toArray, List.set_cons_zero, List.set_cons_succ]
        refine wpAnyH_done (by kernel_rfl) ?_ _
        refine NoPanic.normal ?_
        go_wp2
        have l9 := L8.out.lay true
        have hK' := (KeepsOthers.setCell wx ⟨w.heap.size + 1, 0, none⟩ (.bool true)).same D _ HKE.out rfl
        refine ⟨by simp, .inl ⟨_, _, rfl, run_takeDeferred hK', ?_⟩⟩
        have hc5 := cell_kept (l9.res.cell 0) (grownBy_putObj' _ D (.deferred none)) (fun r e => by cases e; exact ⟨_, hK', rfl⟩)
        refine ⟨.bool true, ?_, rfl, (l9.keeps.below (Nat.le_refl _) (by simp)).trans (belowK_b (w := w) (Nat.le_refl _) _ D _ _ (by have h1 := HD.out; have h2 := HWR.out; rw [World.size_alloc] at h1; omega) hK' rfl rfl)⟩
        simp [results, Try.f14, go_sem, hc5]
      case stop =>
        rintro D c pre W hD ⟨q, hq, hpre⟩ ⟨rfl, p0, x, hp, hx⟩ hK
        rw [hp] at hpre
        obtain ⟨jj, rfl, rfl, rfl⟩ := opsUpto_inv hpre
        rw [opsUpto_length] at hx
        exact absurd rfl hx

set_option maxRecDepth 100000 in
set_option maxHeartbeats 16000000 in
theorem need_yes15 (dst num : Int) (b off : Nat) (len cap : Nat) (h : 1 ≤ len) (h10 : len ≤ 10) (hc : len ≤ cap) (hm : cap ≤ maxLen) (z : Nat → Int) (w : World) (hz : ∀ i, i < len → w.cell? ⟨b, off + i, none⟩ = some (.int .i64 (z i))) :
    Calls Try.prog 14 #[.agg #[.int .i64 15, .int .i64 dst, .slice (some ⟨b, off, none⟩) len cap, .int .i64 num]] w fun e w' => e = .returned (.bool true) ∧ Below w.heap.size w w' := by
  have hd : decide (10 < (len : Int)) = false := by simp; omega
  have hd2 : decide ((len : Int) < 1) = false := by simp; omega
  have CRO := kept rows_k
  have CN := kept (fun w hz => needs_yes15 dst num b off len cap h hc hm z w hz)
  have HZ := kept hz
  clear hz
  obtain ⟨y, hy⟩ : ∃ y, ktakes 15 = y := ⟨_, rfl⟩
  have hys : y.size = 1 := by rw [← hy]; rfl
  have HK : Hid (kcells[46]? = some (.string y)) := by rw [← hy]; exact (kcell 15 (by decide)).2.1
  clear hy
  have L0 : Hid (LB w ((w.alloc (.cells #[.int .i64 15, .int .i64 dst, .slice (some ⟨b, off, none⟩) len cap, .int .i64 num] 77)).alloc (.cells #[.bool false] 4)) 15 dst num (.slice (some ⟨b, off, none⟩) len cap) false) := LB.start
  refine (callsIn_wide (n := 5)).1 ?_
  refine callsIn_of_wp_marks Try.func14 rfl trivial ?_ rfl
  refine wpIn_wide.2 ?_
  simp only [Try.ntmps14, List.size_toArray, List.length_cons, List.length_nil, Nat.reduceAdd, Nat.reduceSub, Array.replicate_succ, Array.replicate_zero, List.push_toArray, List.append_toArray, List.nil_append, List.cons_append]
  go_wp2_with fail
  generalize (w.alloc (.cells #[.int .i64 15, .int .i64 dst, .slice (some ⟨b, off, none⟩) len cap, .int .i64 num] 77)).alloc (.cells #[.bool false] 4) = W0 at *
  refine (opslives _).mono ?_
  rintro e W1 ⟨rfl, k⟩
  have l1 := L0.out.next k
  clear k L0
  have L1 := kept l1
  clear l1
  obtain ⟨c0, c1, c2, c3, c4, c5⟩ := L1.out.cells

  go_wp2_with fail
  refine (CN.out _ (fun i hi => L1.out.keeps.cellOf (HZ.out i hi))).mono ?_
  rintro e W2 ⟨v, rfl, ho, k⟩
  have hge1 := L1.out.ge
  obtain ⟨ga, ca, rfl, hga, hca, hcells⟩ : ∃ ga ca, v = .slice (some ⟨ga, 0, none⟩) 1 ca ∧ w.heap.size + 2 ≤ ga ∧ 1 ≤ ca ∧ ∃ cur, Blk W2 ga 3 cur ∧ cur.size = ca ∧ cur.toList.take 1 = [.int .i64 (z 0)] := by
    rcases ho.2 with ⟨_, h0⟩ | ⟨g, cp, cur, h1, h2, h3, h4, h5, h6, h7⟩
    · exact absurd h0 (by decide)
    · exact ⟨g, cp, h1, by omega, h4, cur, h3, by simpa using h6, by simpa using h7⟩
  obtain ⟨cur, hcur, hcs, hct⟩ := hcells
  have AR := kept hcur
  have HCT := kept hct
  have HCS := kept hcs
  have HGA := kept hga
  have HCA := kept hca
  have l2 := L1.out.next k
  clear k L1 c0 c1 c2 c3 c4 c5 ho hcur hct hcs hga hca hge1
  have L2 := kept l2
  clear l2
  obtain ⟨c0, c1, c2, c3, c4, c5⟩ := L2.out.cells
  have MB := kept (World.alloc_heap_new W2 (.map #[] 0))
  have l3 := L2.out.next ((Keeps.refl W2 []).alloc (.map #[] 0))
  have ar := AR.out.keep ((Keeps.refl W2 []).alloc (.map #[] 0)) (by simp)
  have HG := kept L2.out.ge
  have HNE : Hid (ga ≠ W2.heap.size) := fun e => by have := AR.out.lt; omega
  clear L2 AR c0 c1 c2 c3 c4 c5
  have L3 := kept l3
  have AR := kept ar
  clear l3 ar
  have hmm := @run_makeMap Try.prog
  generalize hgm : W2.heap.size = gm at *
  go_upto_region 5 with (refine wpList_put _ rfl _ _ _ rfl gm _ _ _ _ rfl rfl rfl MB.out (by rfl) ?_; intro W3 mb km; replace L3 := kept (L3.out.nextB km HG.out); replace AR := kept (AR.out.keep km (by simp; exact HNE.out)); replace MB := kept mb; clear mb km)
  have hl := run_look _ _ _ _ MB.out 15 (some (5, .int .i64 24)) (by rfl)
  obtain ⟨c0, c1, c2, c3, c4, c5⟩ := L3.out.cells
  go_wp2_with fail
  clear hl MB hmm
  refine wp_region_noPanic ?_
  refine wp_region_held_drew (S := (fun w' => w'.cell? ⟨w.heap.size, 0, none⟩ = some (.int .i64 15) ∧ w'.cell? ⟨w.heap.size, 2, none⟩ = some (.slice (some ⟨b, off, none⟩) len cap))) (by kernel_rfl) ?hSs (fun hHeld => ?_)
  case hSs => exact ⟨c0, c2⟩
  refine wpAnyH_take (i := 0) (oi := { dst := some 40, op := Op.move (Operand.tmp 8), type := 4, pos := "law.go:76", after := #[], guard := none }) (v := ?v0) rfl (by kernel_rfl) (by kernel_rfl) (by kernel_rfl) (fun _ _ _ h => h) (Or.inl ⟨by rfl, ?y0⟩) hHeld ?r0
  case y0 => (intro w hSw; (try dsimp only at hSw); go_simp; (try with_reducible rfl))
  try simp only [Act.put, List.setIfInBounds_toArray, List.set_cons_zero, List.set_cons_succ]
  refine wpAnyH_take (i := 1) (oi := { dst := some 41, op := Op.unOp UnOp.not 4 (Operand.tmp 40), type := 4, pos := "law.go:76", after := #[{ on := 0, ground := Ground.data }], guard := none }) (v := ?v1) rfl (by kernel_rfl) (by kernel_rfl) (by kernel_rfl) (fun _ _ _ h => h) (Or.inl ⟨by rfl, ?y1⟩) hHeld ?r1
  case y1 => (intro w hSw; (try dsimp only at hSw); go_simp; (try with_reducible rfl))
  try simp only [Act.put, List.setIfInBounds_toArray, List.set_cons_zero, List.set_cons_succ]
  refine wpAnyH_take (i := 2) (oi := { dst := some 42, op := Op.move (Operand.tmp 41), type := 4, pos := "law.go:76", after := #[{ on := 1, ground := Ground.data }], guard := none }) (v := ?v2) rfl (by kernel_rfl) (by kernel_rfl) (by kernel_rfl) (fun _ _ _ h => h) (Or.inl ⟨by rfl, ?y2⟩) hHeld ?r2
  case y2 => (intro w hSw; (try dsimp only at hSw); go_simp; (try with_reducible rfl))
  try simp only [Act.put, List.setIfInBounds_toArray, List.set_cons_zero, List.set_cons_succ]
  refine wpAnyH_take (i := 3) (oi := { dst := some 43, op := Op.fieldAddr 77 (Operand.tmp 1) 2, type := 0, pos := "law.go:76", after := #[{ on := 2, ground := Ground.guard }], guard := some (2, false) }) (v := ?v3) rfl (by kernel_rfl) (by kernel_rfl) (by kernel_rfl) (fun _ _ _ h => h) (Or.inl ⟨by rfl, ?y3⟩) hHeld ?r3
  case y3 => (intro w hSw; (try dsimp only at hSw); go_simp; (try with_reducible rfl))
  try simp only [Act.put, List.setIfInBounds_toArray, List.set_cons_zero, List.set_cons_succ]
  refine wpAnyH_take (i := 4) (oi := { dst := some 44, op := Op.load 58 (Operand.tmp 43), type := 58, pos := "law.go:76", after := #[{ on := 3, ground := Ground.data }, { on := 2, ground := Ground.guard }], guard := some (2, false) }) (v := ?v4) rfl (by kernel_rfl) (by kernel_rfl) (by kernel_rfl) (fun _ _ _ h => h) (Or.inl ⟨by rfl, ?y4⟩) hHeld ?r4
  case y4 => (intro w hSw; (try dsimp only at hSw); go_simp; (try with_reducible rfl))
  try simp only [Act.put, List.setIfInBounds_toArray, List.set_cons_zero, List.set_cons_succ]
  refine wpAnyH_take (i := 5) (oi := { dst := some 45, op := Op.call { callee := Callee.builtin Builtin.len, args := #[Operand.tmp 44], argTypes := #[58] }, type := 3, pos := "law.go:76", after := #[{ on := 4, ground := Ground.data }, { on := 2, ground := Ground.guard }], guard := some (2, false) }) (v := ?v5) rfl (by kernel_rfl) (by kernel_rfl) (by kernel_rfl) (fun _ _ _ h => h) (Or.inl ⟨by rfl, ?y5⟩) hHeld ?r5
  case y5 => (intro w hSw; (try dsimp only at hSw); go_simp; (try with_reducible rfl))
  try simp only [Act.put, List.setIfInBounds_toArray, List.set_cons_zero, List.set_cons_succ]
  refine wpAnyH_take (i := 7) (oi := { dst := some 47, op := Op.fieldAddr 77 (Operand.tmp 1) 0, type := 0, pos := "law.go:76", after := #[{ on := 2, ground := Ground.guard }], guard := some (2, false) }) (v := ?v7) rfl (by kernel_rfl) (by kernel_rfl) (by kernel_rfl) (fun _ _ _ h => h) (Or.inl ⟨by rfl, ?y7⟩) hHeld ?r7
  case y7 => (intro w hSw; (try dsimp only at hSw); go_simp; (try with_reducible rfl))
  try simp only [Act.put, List.setIfInBounds_toArray, List.set_cons_zero, List.set_cons_succ]
  refine wpAnyH_take (i := 8) (oi := { dst := some 48, op := Op.load 44 (Operand.tmp 47), type := 44, pos := "law.go:76", after := #[{ on := 7, ground := Ground.data }, { on := 2, ground := Ground.guard }], guard := some (2, false) }) (v := ?v8) rfl (by kernel_rfl) (by kernel_rfl) (by kernel_rfl) (fun _ _ _ h => h) (Or.inl ⟨by rfl, ?y8⟩) hHeld ?r8
  case y8 => (intro w hSw; (try dsimp only at hSw); go_simp; (try with_reducible rfl))
  try simp only [Act.put, List.setIfInBounds_toArray, List.set_cons_zero, List.set_cons_succ]
  refine wpAnyH_ready (rs := [6]) (by kernel_rfl) (by simp) ?_
  refine AllReadyH.cons (o := { dst := some 46, op := Op.call { callee := Callee.value (Operand.func 40), args := #[], argTypes := #[] }, type := 47, pos := "law.go:76", after := #[{ on := 2, ground := Ground.chain }, { on := 2, ground := Ground.guard }], guard := some (2, false) }) rfl (fun K hK => ?_) AllReadyH.nil
  go_simp
  (with_reducible refine (CRO.out _).mono ?_)
  rintro e wx ⟨rfl, k⟩
  show K _ _
  obtain ⟨k, rb⟩ := k
  have r1 : wx.cell? ⟨W3.heap.size, 46, none⟩ = some (.string y) := (rb.cell 46).trans HK.out
  clear rb
  have lx := L3.out.later k (by first | exact Keeps.refl _ [] | exact (Keeps.refl _ []).drew)
  have ar := blk_later AR.out k (by first | exact Keeps.refl _ [] | exact (Keeps.refl _ []).drew)
  clear k c0 c1 c2 c3 c4 c5 L3 AR
  obtain ⟨c0, c1, c2, c3, c4, c5⟩ := lx.cells
  have L3 := kept lx
  have AR := kept ar
  clear lx ar
  clear hHeld
  refine hK.out _ _ ?hS6 (fun hHeld => ?_)
  case hS6 => exact ⟨c0, c2⟩
  clear hK K
  try simp only [Act.put, List.setIfInBounds_toArray, List.set_cons_zero, List.set_cons_succ]
  refine wpAnyH_take (i := 9) (oi := { dst := some 49, op := Op.indexAddr 47 (Operand.tmp 46) (Operand.tmp 48), type := 0, pos := "law.go:76", after := #[{ on := 6, ground := Ground.data }, { on := 8, ground := Ground.data }, { on := 2, ground := Ground.guard }], guard := some (2, false) }) (v := ?v9) rfl (by kernel_rfl) (by kernel_rfl) (by kernel_rfl) (fun _ _ _ h => h) (Or.inl ⟨by rfl, ?y9⟩) hHeld ?r9
  case y9 => (intro w hSw; (try dsimp only at hSw); go_simp; (try with_reducible rfl))
  try simp only [Act.put, List.setIfInBounds_toArray, List.set_cons_zero, List.set_cons_succ]
  refine wpAnyH_take (i := 10) (oi := { dst := some 50, op := Op.fieldAddr 50 (Operand.tmp 49) 1, type := 0, pos := "law.go:76", after := #[{ on := 9, ground := Ground.data }, { on := 2, ground := Ground.guard }], guard := some (2, false) }) (v := ?v10) rfl (by kernel_rfl) (by kernel_rfl) (by kernel_rfl) (fun _ _ _ h => h) (Or.inl ⟨by rfl, ?y10⟩) hHeld ?r10
  case y10 => (intro w hSw; (try dsimp only at hSw); go_simp; (try with_reducible rfl))
  try simp only [Act.put, List.setIfInBounds_toArray, List.set_cons_zero, List.set_cons_succ]
  refine wpAnyH_ready (rs := [11]) (by kernel_rfl) (by simp) ?_
  refine AllReadyH.cons (o := { dst := some 51, op := Op.load 9 (Operand.tmp 50), type := 9, pos := "law.go:76", after := #[{ on := 10, ground := Ground.data }, { on := 2, ground := Ground.guard }], guard := some (2, false) }) rfl (fun K hK => ?_) AllReadyH.nil
  go_simp
  clear hHeld
  refine hK.out _ _ ?hS11 (fun hHeld => ?_)
  case hS11 => exact ⟨c0, c2⟩
  clear hK K
  try simp only [Act.put, List.setIfInBounds_toArray, List.set_cons_zero, List.set_cons_succ]
  refine wpAnyH_take (i := 12) (oi := { dst := some 52, op := Op.call { callee := Callee.builtin Builtin.len, args := #[Operand.tmp 51], argTypes := #[9] }, type := 3, pos := "law.go:76", after := #[{ on := 11, ground := Ground.data }, { on := 2, ground := Ground.guard }], guard := some (2, false) }) (v := ?v12) rfl (by kernel_rfl) (by kernel_rfl) (by kernel_rfl) (fun _ _ _ h => h) (Or.inl ⟨by rfl, ?y12⟩) hHeld ?r12
  case y12 => (intro w hSw; (try dsimp only at hSw); go_simp; (try with_reducible rfl))
  try simp only [Act.put, List.setIfInBounds_toArray, List.set_cons_zero, List.set_cons_succ]
  refine wpAnyH_take (i := 13) (oi := { dst := some 53, op := Op.binOp BinOp.lss 3 (Operand.tmp 45) (Operand.tmp 52) 3, type := 4, pos := "law.go:76", after := #[{ on := 5, ground := Ground.data }, { on := 12, ground := Ground.data }, { on := 2, ground := Ground.guard }], guard := some (2, false) }) (v := ?v13) rfl (by kernel_rfl) (by kernel_rfl) (by kernel_rfl) (fun _ _ _ h => h) (Or.inl ⟨by rfl, ?y13⟩) hHeld ?r13
  case y13 => (intro w hSw; (try dsimp only at hSw); go_simp; (try with_reducible rfl))
  try simp only [Act.put, List.setIfInBounds_toArray, List.set_cons_zero, List.set_cons_succ]
  refine wpAnyH_take (i := 14) (oi := { dst := some 54, op := Op.pick (Operand.tmp 42) (Operand.const (Value.bool true)) (Operand.tmp 53), type := 4, pos := "law.go:76", after := #[{ on := 2, ground := Ground.data }, { on := 13, ground := Ground.data }], guard := none }) (v := ?v14) rfl (by kernel_rfl) (by kernel_rfl) (by kernel_rfl) (fun _ _ _ h => h) (Or.inl ⟨by rfl, ?y14⟩) hHeld ?r14
  case y14 => (intro w hSw; (try dsimp only at hSw); go_simp; (try with_reducible rfl))
  try simp only [Act.put, List.setIfInBounds_toArray, List.set_cons_zero, List.set_cons_succ]
  refine wpAnyH_done (by kernel_rfl) ?_ _
  refine NoPanic.normal ?_
  have RZ : Hid (Rz w wx ga ca 1 0 0 z 15 dst num (.slice (some ⟨b, off, none⟩) len cap)) := ⟨L3.out, cur, AR.out, HCS.out, fun i hi => by
    have hg : (cur.toList.take 1)[i]? = cur.toList[i]? := by rw [List.getElem?_take, if_pos hi]
    rw [if_neg (Nat.not_lt_zero _), ← Array.getElem?_toList, ← hg, HCT.out]
    match i, hi with
    | 0, _ => rfl
    | n + 1, h => exact absurd h (by omega)⟩
  clear L3 AR HCT HCS c0 c1 c2 c3 c4 c5
  go_wp2
  go_loopw [92] (fun i wr => ∃ j : Nat, j ≤ 1 ∧ i = .int .i64 j ∧ Rz w wr ga ca 1 0 j z 15 dst num (.slice (some ⟨b, off, none⟩) len cap)) (fun i _ => 1 - (intOf i).toNat)
  case atStart => exact ⟨0, by omega, rfl, RZ.out⟩
  case round =>
    obtain ⟨j, hj, rfl, hR⟩ := hrel
    have RZ := kept hR
    clear hR
    by_cases hlt : j < 1
    · obtain ⟨a0, a1⟩ := RZ.out.at hlt
      have a2 : wr.cell? ⟨b, off + j, none⟩ = some (.int .i64 (z (0 + j))) := by
        have := RZ.out.lb.keeps.cellOf (HZ.out (0 + j) (by omega))
        simpa [Nat.add_assoc] using this
      generalize hzj : z (0 + j) = zj at *
      have HZJ := kept hzj
      clear hzj
      go_wp2
      go_quiet (fail)
      have rz := RZ.out.step hlt HCA.out HGA.out ((Keeps.refl wr []).drewN nq)
      rw [HZJ.out] at rz
      go_wp2
      go_roundw
      case rel => exact ⟨j + 1, by omega, by go_num, rz⟩
      case measure => simp [intOf]; omega
    · obtain rfl : j = 1 := by omega
      clear hj hlt
      obtain ⟨c0, c1, c2, c3, c4, c5⟩ := RZ.out.lb.cells
      go_wp2_with fail
      refine (all60 _).mono ?_
      rintro e w6 ⟨rfl, rfl⟩
      have hn0 := cell_new_l wr (.int .i64 0) 3
      go_wp2_with fail
      refine (wpIn_wide (n := 5)).1 ?_
      refine' wpIn_rangeFunc_ownF rfl (by decide) (gf := 92) (lb := #[]) rfl trivial (enters_of Try.func92 (by kernel_rfl) rfl)
        (all_stops Fence.wide 4 trivial rfl (by decide) wr.heap.size _) belowK_t (belowK_b (by simp)) (Below.refl _ _) (fun _ => rfl)
        (fun pre W => (W.cell? ⟨wr.heap.size, 0, none⟩ = some (.int .i64 pre.length) ∧ W.frozen? ⟨wr.heap.size, 0, none⟩ = false) ∧ Below wr.heap.size (wr.alloc (.cells #[.int .i64 0] 3)) W)
        (fun c pre W => c = .ret ∧ ∃ p0 x, pre = p0 ++ [x] ∧ x ≠ (p0.length : Int))
        (OwnFrom.and (Own.from (fun s A B row hs hg hr => ⟨cell_kept hs.1 hg hr, (frozen_kept hs.1 hg hr).trans hs.2⟩) _) (ownFrom_below (by simp) (by simp)))
        (fun c => Own.from (fun s A B row hs hg hr => hs) _)
        ⟨hn0, Below.refl _ _⟩ _ ?assign ?body ?done ?stop
      case assign =>
        intro l x W K hK
        gi_wp2
        exact hK
      case body =>
        rintro l pre x W ⟨⟨hn1, hn2⟩, hBW⟩ _
        have hWsz := hBW.size
        have hr1 : W.cell? ⟨w.heap.size + 1, 0, none⟩ = some (.bool false) := by
          have hlt := RZ.out.lb.res.lt
          have h1 := hBW.block (w.heap.size + 1) hlt
          have h2 : (wr.alloc (.cells #[.int .i64 0] 3)).heap[w.heap.size + 1]? = wr.heap[w.heap.size + 1]? := Below.heap_alloc wr _ _ hlt
          rw [← c4]; simp only [World.cell?]; rw [h1, h2]
        have hr2 : W.frozen? ⟨w.heap.size + 1, 0, none⟩ = false := by
          have hlt := RZ.out.lb.res.lt
          have h1 := hBW.block (w.heap.size + 1) hlt
          have h2 : (wr.alloc (.cells #[.int .i64 0] 3)).heap[w.heap.size + 1]? = wr.heap[w.heap.size + 1]? := Below.heap_alloc wr _ _ hlt
          rw [← c5]; simp only [World.frozen?]; rw [h1, h2]
        by_cases hx : x = (pre.length : Int)
        · have hb : (x != (pre.length : Int)) = false := by simp [hx]
          have HX := kept hx
          clear hx
          gi_wp2
          have el : (((pre ++ [x]).length : Nat) : Int) = (pre.length : Int) + 1 := by simp
          exact ⟨KeepsOthers.setCell _ _ _, (Below.refl wr.heap.size W).setCell (p := ⟨wr.heap.size, 0, none⟩) (Nat.le_refl _) _, ⟨by rw [el]; exact World.cell?_setCell_same' _ _ _ (by rw [hn1]; rfl), by rw [World.frozen?_setCell]; exact hn2⟩, hBW.setCell (p := ⟨wr.heap.size, 0, none⟩) (Nat.le_refl _) _⟩
        · have hb : (x != (pre.length : Int)) = true := by simp [hx]
          have HX := kept hx
          clear hx
          gi_wp2
          exact ⟨KeepsOthers.setCell _ _ _, rfl, pre, x, rfl, HX.out⟩
      case done =>
        rintro D ys W hD rfl ⟨⟨hn1, hn2⟩, hBW⟩ hK
        have k6 : Keeps wr W [] := ⟨hBW.os, hBW.tape, hBW.output, Nat.le_trans (by simp) hBW.size, fun i hi _ => (hBW.block i hi).trans (Below.heap_alloc wr _ i hi)⟩
        have hn : W.cell? ⟨wr.heap.size, 0, none⟩ = some (.int .i64 27) := by rw [opsUpto_length] at hn1; exact hn1
        have HD := kept hD
        have HWR := kept (show w.heap.size + 1 < wr.heap.size from RZ.out.lb.res.lt)
        have l7 := RZ.out.lb.next k6
        have r7 : W.heap.size ≥ wr.heap.size := k6.size
        have HW7 := kept r7
        clear hn1 hn2 hBW k6 RZ c0 c1 c2 c3 c4 c5 hn0 hD r7
        have L7 := kept l7
        clear l7
        have HKD := kept hK
        clear hK
        obtain ⟨c0, c1, c2, c3, c4, c5⟩ := L7.out.cells
        go_wp2_with fail
        refine (CN.out _ (fun i hi => L7.out.keeps.cellOf (HZ.out i hi))).mono ?_
        rintro e W8 ⟨v2, rfl, ho, k⟩
        obtain ⟨g2, cb, rfl, hg2, hcell2⟩ : ∃ g2 cb, v2 = .slice (some ⟨g2, 0, none⟩) 1 cb ∧ W.heap.size ≤ g2 ∧ W8.cell? ⟨g2, 0, none⟩ = some (.int .i64 (z 0)) := by
          rcases ho.2 with ⟨_, h0⟩ | ⟨g, cp, cur2, h1, h2, h3, h4, h5, h6, h7⟩
          · exact absurd h0 (by decide)
          · refine ⟨g, cp, h1, h2, ?_⟩
            have hb2 : Blk W8 g 3 cur2 := h3
            rw [hb2.cell 0]
            have e1 : (cur2.toList.take (1 * 1))[0]? = cur2.toList[0]? := by rw [List.getElem?_take, if_pos (by decide)]
            rw [← Array.getElem?_toList, ← e1, h7]
            rfl
        have l8 := L7.out.next k
        have n1 := k.cellOf hn
        have n2 := hcell2
        have n3 : W8.cell? ⟨b, off, none⟩ = some (.int .i64 (z 0)) := l8.keeps.cellOf (HZ.out 0 (by omega))
        have HKE := kept (obj_keep HKD.out k)
        have HE1 : Hid (wr.heap.size ≠ w.heap.size + 1) := fun e => by have := HWR.out; omega
        have HE2 : Hid (g2 ≠ w.heap.size + 1) := fun e => by have := HWR.out; have := HW7.out; omega
        have HE3 : Hid (b ≠ w.heap.size + 1) := fun e => by
          have := World.block_lt_of_cell? w _ (HZ.out 0 (by omega))
          simp at this
          omega
        clear k L7 c0 c1 c2 c3 c4 c5 ho hn hcell2 hg2 HKD
        have L8 := kept l8
        clear l8
        obtain ⟨c0, c1, c2, c3, c4, c5⟩ := L8.out.cells
        generalize z 0 = z0 at *
        go_wp2_with fail
        refine wp_region_noPanic ?_
        refine wp_region_held_drew (S := (fun w' => w'.cell? ⟨wr.heap.size, 0, none⟩ = some (.int .i64 27) ∧ w'.cell? ⟨g2, 0, none⟩ = some (.int .i64 z0) ∧ w'.cell? ⟨b, off, none⟩ = some (.int .i64 z0))) (by kernel_rfl) ?qhSs (fun hHeld => ?_)
        case qhSs => exact ⟨n1, n2, n3⟩
        refine wpAnyH_take (i := 0) (oi := { dst := some 124, op := Op.load 3 (Operand.tmp 11), type := 3, pos := "law.go:105", after := #[], guard := none }) (v := ?qv0) rfl (by kernel_rfl) (by kernel_rfl) (by kernel_rfl) (fun _ _ _ h => h) (Or.inl ⟨by rfl, ?qy0⟩) hHeld ?qr0
        case qy0 => (intro w hSw; (try dsimp only at hSw); go_simp; (try with_reducible rfl))
        try simp only [Act.put, List.setIfInBounds_toArray, List.set_cons_zero, List.set_cons_succ]
        refine wpAnyH_ready (rs := [1]) (by kernel_rfl) (by simp) ?_
        refine AllReadyH.cons (o := { dst := some 125, op := Op.call { callee := Callee.value (Operand.func 40), args := #[], argTypes := #[] }, type := 47, pos := "law.go:105", after := #[], guard := none }) rfl (fun K hK => ?_) AllReadyH.nil
        go_simp
        (with_reducible refine (CRO.out _).mono ?_)
        rintro e wx ⟨rfl, k⟩
        show K _ _
        obtain ⟨k, rb⟩ := k
        clear rb
        have lx := L8.out.later k (by first | exact Keeps.refl _ [] | exact (Keeps.refl _ []).drew)
        replace n1 := cell_later n1 k (by first | exact Keeps.refl _ [] | exact (Keeps.refl _ []).drew)
        replace n2 := cell_later n2 k (by first | exact Keeps.refl _ [] | exact (Keeps.refl _ []).drew)
        replace n3 := cell_later n3 k (by first | exact Keeps.refl _ [] | exact (Keeps.refl _ []).drew)
        replace HKE := kept (obj_later HKE.out k (by first | exact Keeps.refl _ [] | exact (Keeps.refl _ []).drew))
        clear k c0 c1 c2 c3 c4 c5 L8
        have L8 := kept lx
        clear lx
        obtain ⟨c0, c1, c2, c3, c4, c5⟩ := L8.out.cells
        clear hHeld
        refine hK.out _ _ ?qhS1 (fun hHeld => ?_)
        case qhS1 => exact ⟨n1, n2, n3⟩
        clear hK K
        try simp only [Act.put, List.setIfInBounds_toArray, List.set_cons_zero, List.set_cons_succ]
        refine wpAnyH_take (i := 2) (oi := { dst := some 126, op := Op.call { callee := Callee.builtin Builtin.len, args := #[Operand.tmp 125], argTypes := #[47] }, type := 3, pos := "law.go:105", after := #[{ on := 1, ground := Ground.data }], guard := none }) (v := ?qv2) rfl (by kernel_rfl) (by kernel_rfl) (by kernel_rfl) (fun _ _ _ h => h) (Or.inl ⟨by rfl, ?qy2⟩) hHeld ?qr2
        case qy2 => (intro w hSw; (try dsimp only at hSw); go_simp; (try with_reducible rfl))
        try simp only [Act.put, List.setIfInBounds_toArray, List.set_cons_zero, List.set_cons_succ]
        refine wpAnyH_take (i := 3) (oi := { dst := some 127, op := Op.binOp BinOp.eql 3 (Operand.tmp 124) (Operand.tmp 126) 3, type := 4, pos := "law.go:105", after := #[{ on := 0, ground := Ground.data }, { on := 2, ground := Ground.data }], guard := none }) (v := ?qv3) rfl (by kernel_rfl) (by kernel_rfl) (by kernel_rfl) (fun _ _ _ h => h) (Or.inl ⟨by rfl, ?qy3⟩) hHeld ?qr3
        case qy3 => (intro w hSw; (try dsimp only at hSw); go_simp; (try with_reducible rfl))
        try simp only [Act.put, List.setIfInBounds_toArray, List.set_cons_zero, List.set_cons_succ]
        refine wpAnyH_take (i := 4) (oi := { dst := some 128, op := Op.move (Operand.tmp 127), type := 4, pos := "law.go:105", after := #[{ on := 3, ground := Ground.data }, { on := 1, ground := Ground.chain }], guard := none }) (v := ?qv4) rfl (by kernel_rfl) (by kernel_rfl) (by kernel_rfl) (fun _ _ _ h => h) (Or.inl ⟨by rfl, ?qy4⟩) hHeld ?qr4
        case qy4 => (intro w hSw; (try dsimp only at hSw); go_simp; (try with_reducible rfl))
        try simp only [Act.put, List.setIfInBounds_toArray, List.set_cons_zero, List.set_cons_succ]
        refine wpAnyH_take (i := 5) (oi := { dst := some 129, op := Op.move (Operand.tmp 14), type := 58, pos := "law.go:105", after := #[{ on := 4, ground := Ground.guard }], guard := some (4, true) }) (v := ?qv5) rfl (by kernel_rfl) (by kernel_rfl) (by kernel_rfl) (fun _ _ _ h => h) (Or.inl ⟨by rfl, ?qy5⟩) hHeld ?qr5
        case qy5 => (intro w hSw; (try dsimp only at hSw); go_simp; (try with_reducible rfl))
        try simp only [Act.put, List.setIfInBounds_toArray, List.set_cons_zero, List.set_cons_succ]
        refine wpAnyH_take (i := 6) (oi := { dst := some 130, op := Op.indexAddr 58 (Operand.tmp 129) (Operand.const (Value.int IntKind.i64 0)), type := 0, pos := "law.go:105", after := #[{ on := 5, ground := Ground.data }, { on := 4, ground := Ground.guard }], guard := some (4, true) }) (v := ?qv6) rfl (by kernel_rfl) (by kernel_rfl) (by kernel_rfl) (fun _ _ _ h => h) (Or.inl ⟨by rfl, ?qy6⟩) hHeld ?qr6
        case qy6 => (intro w hSw; (try dsimp only at hSw); go_simp; (try with_reducible rfl))
        try simp only [Act.put, List.setIfInBounds_toArray, List.set_cons_zero, List.set_cons_succ]
        refine wpAnyH_take (i := 7) (oi := { dst := some 131, op := Op.load 3 (Operand.tmp 130), type := 3, pos := "law.go:105", after := #[{ on := 6, ground := Ground.data }, { on := 4, ground := Ground.guard }], guard := some (4, true) }) (v := ?qv7) rfl (by kernel_rfl) (by kernel_rfl) (by kernel_rfl) (fun _ _ _ h => h) (Or.inl ⟨by rfl, ?qy7⟩) hHeld ?qr7
        case qy7 => (intro w hSw; (try dsimp only at hSw); go_simp; (try with_reducible rfl))
        try simp only [Act.put, List.setIfInBounds_toArray, List.set_cons_zero, List.set_cons_succ]
        refine wpAnyH_take (i := 8) (oi := { dst := some 132, op := Op.move (Operand.tmp 9), type := 58, pos := "law.go:105", after := #[{ on := 4, ground := Ground.guard }], guard := some (4, true) }) (v := ?qv8) rfl (by kernel_rfl) (by kernel_rfl) (by kernel_rfl) (fun _ _ _ h => h) (Or.inl ⟨by rfl, ?qy8⟩) hHeld ?qr8
        case qy8 => (intro w hSw; (try dsimp only at hSw); go_simp; (try with_reducible rfl))
        try simp only [Act.put, List.setIfInBounds_toArray, List.set_cons_zero, List.set_cons_succ]
        refine wpAnyH_take (i := 9) (oi := { dst := some 133, op := Op.indexAddr 58 (Operand.tmp 132) (Operand.const (Value.int IntKind.i64 0)), type := 0, pos := "law.go:105", after := #[{ on := 8, ground := Ground.data }, { on := 4, ground := Ground.guard }], guard := some (4, true) }) (v := ?qv9) rfl (by kernel_rfl) (by kernel_rfl) (by kernel_rfl) (fun _ _ _ h => h) (Or.inl ⟨by rfl, ?qy9⟩) hHeld ?qr9
        case qy9 => (intro w hSw; (try dsimp only at hSw); go_simp; (try with_reducible rfl))
        try simp only [Act.put, List.setIfInBounds_toArray, List.set_cons_zero, List.set_cons_succ]
        refine wpAnyH_take (i := 10) (oi := { dst := some 134, op := Op.load 3 (Operand.tmp 133), type := 3, pos := "law.go:105", after := #[{ on := 9, ground := Ground.data }, { on := 4, ground := Ground.guard }], guard := some (4, true) }) (v := ?qv10) rfl (by kernel_rfl) (by kernel_rfl) (by kernel_rfl) (fun _ _ _ h => h) (Or.inl ⟨by rfl, ?qy10⟩) hHeld ?qr10
        case qy10 => (intro w hSw; (try dsimp only at hSw); go_simp; (try with_reducible rfl))
        try simp only [Act.put, List.setIfInBounds_toArray, List.set_cons_zero, List.set_cons_succ]
        refine wpAnyH_take (i := 11) (oi := { dst := some 135, op := Op.binOp BinOp.eql 3 (Operand.tmp 131) (Operand.tmp 134) 3, type := 4, pos := "law.go:105", after := #[{ on := 7, ground := Ground.data }, { on := 10, ground := Ground.data }, { on := 4, ground := Ground.guard }], guard := some (4, true) }) (v := ?qv11) rfl (by kernel_rfl) (by kernel_rfl) (by kernel_rfl) (fun _ _ _ h => h) (Or.inl ⟨by rfl, ?qy11⟩) hHeld ?qr11
        case qy11 => (intro w hSw; (try dsimp only at hSw); go_simp; (try with_reducible rfl))
        try simp only [Act.put, List.setIfInBounds_toArray, List.set_cons_zero, List.set_cons_succ]
        refine wpAnyH_take (i := 12) (oi := { dst := some 136, op := Op.pick (Operand.tmp 128) (Operand.tmp 135) (Operand.const (Value.bool false)), type := 4, pos := "law.go:105", after := #[{ on := 4, ground := Ground.data }, { on := 11, ground := Ground.data }], guard := none }) (v := ?qv12) rfl (by kernel_rfl) (by kernel_rfl) (by kernel_rfl) (fun _ _ _ h => h) (Or.inl ⟨by rfl, ?qy12⟩) hHeld ?qr12
        case qy12 => (intro w hSw; (try dsimp only at hSw); go_simp; (try with_reducible rfl))
        try simp only [Act.put, List.setIfInBounds_toArray, List.set_cons_zero, List.set_cons_succ]
        refine wpAnyH_ready (rs := [13]) (by kernel_rfl) (by simp) ?_
        refine AllReadyH.cons (o := { dst := none, op := Op.store 4 (Operand.tmp 2) (Operand.tmp 136), type := 0, pos := "law.go:105", after := #[{ on := 12, ground := Ground.data }, { on := 4, ground := Ground.chain }, { on := 0, ground := Ground.phase }, { on := 1, ground := Ground.phase }, { on := 2, ground := Ground.phase }, { on := 3, ground := Ground.phase }, { on := 4, ground := Ground.phase }, { on := 5, ground := Ground.phase }, { on := 6, ground := Ground.phase }, { on := 7, ground := Ground.phase }, { on := 8, ground := Ground.phase }, { on := 9, ground := Ground.phase }, { on := 10, ground := Ground.phase }, { on := 11, ground := Ground.phase }, { on := 12, ground := Ground.phase }], guard := none }) rfl (fun K hK => ?_) AllReadyH.nil
        go_simp
        clear hHeld
        refine hK.out _ _ ?qhS13 (fun hHeld => ?_)
        case qhS13 => exact ⟨cell_set_other HE1.out n1, cell_set_other HE2.out n2, cell_set_other HE3.out n3⟩
        clear hK K
        try simp only [Act.put, List.setIfInBounds_toArray, List.set_cons_zero, List.set_cons_succ]
        refine wpAnyH_done (by kernel_rfl) ?_ _
        refine NoPanic.normal ?_
        go_wp2
        have l9 := L8.out.lay true
        have hK' := (KeepsOthers.setCell wx ⟨w.heap.size + 1, 0, none⟩ (.bool true)).same D _ HKE.out rfl
        refine ⟨by simp, .inl ⟨_, _, rfl, run_takeDeferred hK', ?_⟩⟩
        have hc5 := cell_kept (l9.res.cell 0) (grownBy_putObj' _ D (.deferred none)) (fun r e => by cases e; exact ⟨_, hK', rfl⟩)
        refine ⟨.bool true, ?_, rfl, (l9.keeps.below (Nat.le_refl _) (by simp)).trans (belowK_b (w := w) (Nat.le_refl _) _ D _ _ (by have h1 := HD.out; have h2 := HWR.out; rw [World.size_alloc] at h1; omega) hK' rfl rfl)⟩
        simp [results, Try.f14, go_sem, hc5]
      case stop =>
        rintro D c pre W hD ⟨q, hq, hpre⟩ ⟨rfl, p0, x, hp, hx⟩ hK
        rw [hp] at hpre
        obtain ⟨jj, rfl, rfl, rfl⟩ := opsUpto_inv hpre
        rw [opsUpto_length] at hx
        exact absurd rfl hx
end Go.Proofs.Ytppidnjhdefbiaa
