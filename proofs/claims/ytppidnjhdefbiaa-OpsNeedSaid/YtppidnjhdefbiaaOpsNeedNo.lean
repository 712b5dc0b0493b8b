/- Package ops: the law OpsNeed, where nothing matches. -/
import Derived.Test.YtppidnjhdefbiaaOpsNeeds
import Derived.Test.YtppidnjhdefbiaaOpsMap
import Derived.BigQuiet
import Derived.Carry
import Derived.Deep.CutBlock
namespace Go.Proofs.Ytppidnjhdefbiaa
open Go.RowKit
set_option linter.unusedVariables false
set_option linter.unusedSimpArgs false

theorem raw_not {op : Int} (h : rawB op = false) : (op == 5) = false ∧ (op == 6) = false ∧ (op == 12) = false ∧ (op == 13) = false ∧ (op == 14) = false ∧ (op == 15) = false := by
  refine ⟨?_, ?_, ?_, ?_, ?_, ?_⟩ <;> (rw [beq_eq_false_iff_ne]; rintro rfl; revert h; decide)
/-- the instruction and the answer's cell, behind calls -/
structure LB (w W : World) (op dst num : Int) (s : Value) (r : Bool) : Prop where
  keeps : Keeps w W []
  blk : Blk W w.heap.size 77 #[.int .i64 op, .int .i64 dst, s, .int .i64 num]
  res : Blk W (w.heap.size + 1) 4 #[.bool r]
section
variable {w W W' W0 : World} {op dst num : Int} {s : Value} {r : Bool}
theorem LB.start : LB w ((w.alloc (.cells #[.int .i64 op, .int .i64 dst, s, .int .i64 num] 77)).alloc (.cells #[.bool false] 4)) op dst num s false := by
  refine ⟨((Keeps.refl w []).alloc _).alloc _, (Blk.new _ _ _).keep ((Keeps.refl _ []).alloc _) (by simp), ?_⟩
  have := Blk.new (w.alloc (.cells #[.int .i64 op, .int .i64 dst, s, .int .i64 num] 77)) 4 #[.bool false]
  simpa using this
theorem LB.next (h : LB w W op dst num s r) (k : Keeps W W' []) : LB w W' op dst num s r := ⟨by simpa using h.keeps.trans k, h.blk.keep k (by simp), h.res.keep k (by simp)⟩
theorem LB.later (h : LB w W op dst num s r) (k : Keeps W0 W' []) (e : Keeps W W0 []) : LB w W' op dst num s r := (h.next e).next k
theorem LB.cells (h : LB w W op dst num s r) : W.cell? ⟨w.heap.size, 0, none⟩ = some (.int .i64 op) ∧ W.cell? ⟨w.heap.size, 1, none⟩ = some (.int .i64 dst) ∧ W.cell? ⟨w.heap.size, 2, none⟩ = some s ∧ W.cell? ⟨w.heap.size, 3, none⟩ = some (.int .i64 num) ∧ W.cell? ⟨w.heap.size + 1, 0, none⟩ = some (.bool r) ∧ W.frozen? ⟨w.heap.size + 1, 0, none⟩ = false :=
  ⟨h.blk.cell 0, h.blk.cell 1, h.blk.cell 2, h.blk.cell 3, h.res.cell 0, h.res.frozen 0⟩
theorem LB.nextB {b : Nat} (h : LB w W op dst num s r) (k : Keeps W W' [b]) (hb : w.heap.size + 2 ≤ b) : LB w W' op dst num s r :=
  ⟨(h.keeps.trans k).mono (fun i hi => by simp at hi; subst hi; exact .inr (by omega)), h.blk.keep k (by simp; omega), h.res.keep k (by simp; omega)⟩
theorem LB.ge (h : LB w W op dst num s r) : w.heap.size + 2 ≤ W.heap.size := by have := h.res.lt; omega
/-- the answer laid -/
theorem LB.lay (h : LB w W op dst num s r) (q : Bool) : LB w (W.setCell ⟨w.heap.size + 1, 0, none⟩ (.bool q)) op dst num s q := by
  have k : Keeps W (W.setCell ⟨w.heap.size + 1, 0, none⟩ (.bool q)) [w.heap.size + 1] := (Keeps.refl W _).setCell (.inl (by simp)) _
  exact ⟨h.keeps.setCell (.inr (by show _ ≤ w.heap.size + 1; omega)) _, h.blk.keep k (by simp), h.res.set_ 0 _⟩
end

set_option maxRecDepth 100000 in
set_option maxHeartbeats 8000000 in
theorem need_long (op dst num : Int) (sa : Option Addr) (len cap : Nat) (h : 10 < len) (w : World) :
    Calls Try.prog 14 #[.agg #[.int .i64 op, .int .i64 dst, .slice sa len cap, .int .i64 num]] w fun e w' => e = .returned (.bool true) ∧ Below w.heap.size w w' := by
  have hd : decide (10 < (len : Int)) = true := by simp; omega
  have L0 : Hid (LB w ((w.alloc (.cells #[.int .i64 op, .int .i64 dst, .slice sa len cap, .int .i64 num] 77)).alloc (.cells #[.bool false] 4)) op dst num (.slice sa len cap) false) := LB.start
  go_enter Try.func14, Try.ntmps14
  go_wp2_with fail
  generalize (w.alloc (.cells #[.int .i64 op, .int .i64 dst, .slice sa len cap, .int .i64 num] 77)).alloc (.cells #[.bool false] 4) = W0 at *
  refine (opslives _).mono ?_
  rintro e W1 ⟨rfl, k⟩
  have l1 := L0.out.next k
  clear k L0
  have L1 := kept l1
  clear l1
  obtain ⟨c0, c1, c2, c3, c4, c5⟩ := L1.out.cells
  go_wp2_with fail
  refine (opslives _).mono ?_
  rintro e W2 ⟨rfl, k⟩
  have l2 := L1.out.next k
  clear k L1 c0 c1 c2 c3 c4 c5
  have L2 := kept l2
  clear l2
  obtain ⟨c0, c1, c2, c3, c4, c5⟩ := L2.out.cells
  go_wp2
  have l3 := L2.out.lay true
  obtain ⟨d0, d1, d2, d3, d4, d5⟩ := l3.cells
  exact bodyPost_ret (v := .bool true) (by simp [results, Try.results14, go_sem, d4]) rfl ⟨rfl, l3.keeps.below (Nat.le_refl _) (by simp)⟩

set_option maxRecDepth 100000 in
set_option maxHeartbeats 8000000 in
theorem need_no (op dst num : Int) (sa : Option Addr) (len cap : Nat) (h : len ≤ 10) (hr : rawB op = false) (w : World) :
    Calls Try.prog 14 #[.agg #[.int .i64 op, .int .i64 dst, .slice sa len cap, .int .i64 num]] w fun e w' => e = .returned (.bool true) ∧ Below w.heap.size w w' := by
  have hd : decide (10 < (len : Int)) = false := by simp; omega
  have CN := kept (fun w => needs_no op dst num sa len cap hr w)
  have L0 : Hid (LB w ((w.alloc (.cells #[.int .i64 op, .int .i64 dst, .slice sa len cap, .int .i64 num] 77)).alloc (.cells #[.bool false] 4)) op dst num (.slice sa len cap) false) := LB.start
  go_enter Try.func14, Try.ntmps14
  go_wp2_with fail
  generalize (w.alloc (.cells #[.int .i64 op, .int .i64 dst, .slice sa len cap, .int .i64 num] 77)).alloc (.cells #[.bool false] 4) = W0 at *
  refine (opslives _).mono ?_
  rintro e W1 ⟨rfl, k⟩
  have l1 := L0.out.next k
  clear k L0
  have L1 := kept l1
  clear l1
  obtain ⟨c0, c1, c2, c3, c4, c5⟩ := L1.out.cells

  go_wp2_with fail
  refine (CN.out _).mono ?_
  rintro e W2 ⟨rfl, k⟩
  have l2 := L1.out.next k
  clear k L1 c0 c1 c2 c3 c4 c5
  have L2 := kept l2
  clear l2
  obtain ⟨c0, c1, c2, c3, c4, c5⟩ := L2.out.cells

  have MB := kept (World.alloc_heap_new W2 (.map #[] 0))
  have l3 := L2.out.next ((Keeps.refl W2 []).alloc (.map #[] 0))
  have HG := kept L2.out.ge
  clear L2 c0 c1 c2 c3 c4 c5
  have L3 := kept l3
  clear l3
  have hmm := @run_makeMap Try.prog
  generalize hgm : W2.heap.size = gm at *
  go_upto_region 5 with (refine wpList_put _ rfl _ _ _ rfl gm _ _ _ _ rfl rfl rfl MB.out (by rfl) ?_; intro W3 mb km; replace L3 := kept (L3.out.nextB km HG.out); replace MB := kept mb; clear mb km)
  obtain ⟨n5, n6, n12, n13, n14, n15⟩ := raw_not hr
  have hl := run_look _ _ _ _ MB.out op none (by simp [Instr.findNow, Instr.sameNow, n5, n6, n12, n13, n14, n15])
  obtain ⟨c0, c1, c2, c3, c4, c5⟩ := L3.out.cells
  go_wp2_with fail
  go_quiet (fail)
  have l4 := L3.out.next ((Keeps.refl _ []).drewN nq)
  clear L3 c0 c1 c2 c3 c4 c5 hl MB
  have L4 := kept l4
  clear l4
  obtain ⟨c0, c1, c2, c3, c4, c5⟩ := L4.out.cells
  generalize World.drewN _ nq = W5 at *
  go_wp2
  have l5 := L4.out.lay true
  obtain ⟨d0, d1, d2, d3, d4, d5⟩ := l5.cells
  exact bodyPost_ret (v := .bool true) (by simp [results, Try.results14, go_sem, d4]) rfl ⟨rfl, l5.keeps.below (Nat.le_refl _) (by simp)⟩
end Go.Proofs.Ytppidnjhdefbiaa
