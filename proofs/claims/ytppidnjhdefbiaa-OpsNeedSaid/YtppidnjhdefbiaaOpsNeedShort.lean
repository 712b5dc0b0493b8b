/- Package ops: the law OpsNeed, where the arguments are too few. -/
import Derived.Test.YtppidnjhdefbiaaOpsNeedNo
namespace Go.Proofs.Ytppidnjhdefbiaa
open Go.RowKit
set_option linter.unusedVariables false
set_option linter.unusedSimpArgs false

theorem rows_k (w : World) : Calls Try.prog 40 #[] w fun e w' => e = .returned (.slice (some ⟨w.heap.size, 0, none⟩) 27 27) ∧ (Keeps w w' [] ∧ Blk w' w.heap.size 50 kcells) := by
  refine (rows_any w).mono ?_
  rintro e w' ⟨rfl, rfl⟩
  exact ⟨rfl, (Keeps.refl w []).alloc _, Blk.new _ _ _⟩

set_option maxRecDepth 100000 in
set_option maxHeartbeats 16000000 in
theorem need_short5 (dst num : Int) (sa : Option Addr) (len cap : Nat) (h : len < 2) (w : World) :
    Calls Try.prog 14 #[.agg #[.int .i64 5, .int .i64 dst, .slice sa len cap, .int .i64 num]] w fun e w' => e = .returned (.bool true) ∧ Below w.heap.size w w' := by
  have hd : decide (10 < (len : Int)) = false := by simp; omega
  have hd2 : decide ((len : Int) < 2) = true := by simp; omega
  have CRO := kept rows_k
  have CN := kept (fun w => needs_short5 dst num sa len cap h w)
  obtain ⟨y, hy⟩ : ∃ y, ktakes 5 = y := ⟨_, rfl⟩
  have hys : y.size = 2 := by rw [← hy]; rfl
  have HK : Hid (kcells[16]? = some (.string y)) := by rw [← hy]; exact (kcell 5 (by decide)).2.1
  clear hy
  have L0 : Hid (LB w ((w.alloc (.cells #[.int .i64 5, .int .i64 dst, .slice sa len cap, .int .i64 num] 77)).alloc (.cells #[.bool false] 4)) 5 dst num (.slice sa len cap) false) := LB.start
  go_enter Try.func14, Try.ntmps14
  go_wp2_with fail
  generalize (w.alloc (.cells #[.int .i64 5, .int .i64 dst, .slice sa len cap, .int .i64 num] 77)).alloc (.cells #[.bool false] 4) = W0 at *
  refine (opslives _).mono ?_
  rintro e W1 ⟨rfl, k⟩
  have l1 := L0.out.next k
  clear k L0
  have L1 := kept l1
  clear l1
  obtain ⟨c0, c1, c2, c3, c4, c5⟩ := L1.out.cells

  go_wp2_with fail
  refine (CN.out _).mono ?_
  rintro e W2 ⟨rfl, k⟩
  have l2 := L1.out.next k
  clear k L1 c0 c1 c2 c3 c4 c5
  have L2 := kept l2
  clear l2
  obtain ⟨c0, c1, c2, c3, c4, c5⟩ := L2.out.cells

  have MB := kept (World.alloc_heap_new W2 (.map #[] 0))
  have l3 := L2.out.next ((Keeps.refl W2 []).alloc (.map #[] 0))
  have HG := kept L2.out.ge
  clear L2 c0 c1 c2 c3 c4 c5
  have L3 := kept l3
  clear l3
  have hmm := @run_makeMap Try.prog
  generalize hgm : W2.heap.size = gm at *
  go_upto_region 5 with (refine wpList_put _ rfl _ _ _ rfl gm _ _ _ _ rfl rfl rfl MB.out (by rfl) ?_; intro W3 mb km; replace L3 := kept (L3.out.nextB km HG.out); replace MB := kept mb; clear mb km)
  have hl := run_look _ _ _ _ MB.out 5 (some (0, .int .i64 20)) (by rfl)
  obtain ⟨c0, c1, c2, c3, c4, c5⟩ := L3.out.cells
  go_wp2_with fail
  clear hl MB hmm
  refine wp_region_held_drew (S := (fun w' => w'.cell? ⟨w.heap.size, 0, none⟩ = some (.int .i64 5) ∧ w'.cell? ⟨w.heap.size, 2, none⟩ = some (.slice sa len cap))) (by kernel_rfl) ?hSs (fun hHeld => ?_)
  case hSs => exact ⟨c0, c2⟩
  refine wpAnyH_take (i := 0) (oi := { dst := some 40, op := Op.move (Operand.tmp 8), type := 4, pos := "law.go:76", after := #[], guard := none }) (v := ?v0) rfl (by kernel_rfl) (by kernel_rfl) (by kernel_rfl) (fun _ _ _ h => h) (Or.inl ⟨by rfl, ?y0⟩) hHeld ?r0
  case y0 => (intro w hSw; (try dsimp only at hSw); go_simp; (try with_reducible rfl))
  try simp only [Act.put, List.setIfInBounds_toArray, List.set_cons_zero, List.set_cons_succ]
  refine wpAnyH_take (i := 1) (oi := { dst := some 41, op := Op.unOp UnOp.not 4 (Operand.tmp 40), type := 4, pos := "law.go:76", after := #[{ on := 0, ground := Ground.data }], guard := none }) (v := ?v1) rfl (by kernel_rfl) (by kernel_rfl) (by kernel_rfl) (fun _ _ _ h => h) (Or.inl ⟨by rfl, ?y1⟩) hHeld ?r1
  case y1 => (intro w hSw; (try dsimp only at hSw); go_simp; (try with_reducible rfl))
  try simp only [Act.put, List.setIfInBounds_toArray, List.set_cons_zero, List.set_cons_succ]
  refine wpAnyH_take (i := 2) (oi := { dst := some 42, op := Op.move (Operand.tmp 41), type := 4, pos := "law.go:76", after := #[{ on := 1, ground := Ground.data }], guard := none }) (v := ?v2) rfl (by kernel_rfl) (by kernel_rfl) (by kernel_rfl) (fun _ _ _ h => h) (Or.inl ⟨by rfl, ?y2⟩) hHeld ?r2
  case y2 => (intro w hSw; (try dsimp only at hSw); go_simp; (try with_reducible rfl))
  try simp only [Act.put, List.setIfInBounds_toArray, List.set_cons_zero, List.set_cons_succ]
  refine wpAnyH_take (i := 3) (oi := { dst := some 43, op := Op.fieldAddr 77 (Operand.tmp 1) 2, type := 0, pos := "law.go:76", after := #[{ on := 2, ground := Ground.guard }], guard := some (2, false) }) (v := ?v3) rfl (by kernel_rfl) (by kernel_rfl) (by kernel_rfl) (fun _ _ _ h => h) (Or.inl ⟨by rfl, ?y3⟩) hHeld ?r3
  case y3 => (intro w hSw; (try dsimp only at hSw); go_simp; (try with_reducible rfl))
  try simp only [Act.put, List.setIfInBounds_toArray, List.set_cons_zero, List.set_cons_succ]
  refine wpAnyH_take (i := 4) (oi := { dst := some 44, op := Op.load 58 (Operand.tmp 43), type := 58, pos := "law.go:76", after := #[{ on := 3, ground := Ground.data }, { on := 2, ground := Ground.guard }], guard := some (2, false) }) (v := ?v4) rfl (by kernel_rfl) (by kernel_rfl) (by kernel_rfl) (fun _ _ _ h => h) (Or.inl ⟨by rfl, ?y4⟩) hHeld ?r4
  case y4 => (intro w hSw; (try dsimp only at hSw); go_simp; (try with_reducible rfl))
  try simp only [Act.put, List.setIfInBounds_toArray, List.set_cons_zero, List.set_cons_succ]
  refine wpAnyH_take (i := 5) (oi := { dst := some 45, op := Op.call { callee := Callee.builtin Builtin.len, args := #[Operand.tmp 44], argTypes := #[58] }, type := 3, pos := "law.go:76", after := #[{ on := 4, ground := Ground.data }, { on := 2, ground := Ground.guard }], guard := some (2, false) }) (v := ?v5) rfl (by kernel_rfl) (by kernel_rfl) (by kernel_rfl) (fun _ _ _ h => h) (Or.inl ⟨by rfl, ?y5⟩) hHeld ?r5
  case y5 => (intro w hSw; (try dsimp only at hSw); go_simp; (try with_reducible rfl))
  try simp only [Act.put, List.setIfInBounds_toArray, List.set_cons_zero, List.set_cons_succ]
  refine wpAnyH_take (i := 7) (oi := { dst := some 47, op := Op.fieldAddr 77 (Operand.tmp 1) 0, type := 0, pos := "law.go:76", after := #[{ on := 2, ground := Ground.guard }], guard := some (2, false) }) (v := ?v7) rfl (by kernel_rfl) (by kernel_rfl) (by kernel_rfl) (fun _ _ _ h => h) (Or.inl ⟨by rfl, ?y7⟩) hHeld ?r7
  case y7 => (intro w hSw; (try dsimp only at hSw); go_simp; (try with_reducible rfl))
  try simp only [Act.put, List.setIfInBounds_toArray, List.set_cons_zero, List.set_cons_succ]
  refine wpAnyH_take (i := 8) (oi := { dst := some 48, op := Op.load 44 (Operand.tmp 47), type := 44, pos := "law.go:76", after := #[{ on := 7, ground := Ground.data }, { on := 2, ground := Ground.guard }], guard := some (2, false) }) (v := ?v8) rfl (by kernel_rfl) (by kernel_rfl) (by kernel_rfl) (fun _ _ _ h => h) (Or.inl ⟨by rfl, ?y8⟩) hHeld ?r8
  case y8 => (intro w hSw; (try dsimp only at hSw); go_simp; (try with_reducible rfl))
  try simp only [Act.put, List.setIfInBounds_toArray, List.set_cons_zero, List.set_cons_succ]
  refine wpAnyH_ready (rs := [6]) (by kernel_rfl) (by simp) ?_
  refine AllReadyH.cons (o := { dst := some 46, op := Op.call { callee := Callee.value (Operand.func 40), args := #[], argTypes := #[] }, type := 47, pos := "law.go:76", after := #[{ on := 2, ground := Ground.chain }, { on := 2, ground := Ground.guard }], guard := some (2, false) }) rfl (fun K hK => ?_) AllReadyH.nil
  go_simp
  (with_reducible refine (CRO.out _).mono ?_)
  rintro e wx ⟨rfl, k⟩
  show K _ _
  obtain ⟨k, rb⟩ := k
  have r1 : wx.cell? ⟨W3.heap.size, 16, none⟩ = some (.string y) := (rb.cell 16).trans HK.out
  clear rb
  have lx := L3.out.later k (by first | exact Keeps.refl _ [] | exact (Keeps.refl _ []).drew)
  clear k c0 c1 c2 c3 c4 c5 L3
  obtain ⟨c0, c1, c2, c3, c4, c5⟩ := lx.cells
  have L3 := kept lx
  clear lx
  clear hHeld
  refine hK.out _ _ ?hS6 (fun hHeld => ?_)
  case hS6 => exact ⟨c0, c2⟩
  clear hK K
  try simp only [Act.put, List.setIfInBounds_toArray, List.set_cons_zero, List.set_cons_succ]
  refine wpAnyH_take (i := 9) (oi := { dst := some 49, op := Op.indexAddr 47 (Operand.tmp 46) (Operand.tmp 48), type := 0, pos := "law.go:76", after := #[{ on := 6, ground := Ground.data }, { on := 8, ground := Ground.data }, { on := 2, ground := Ground.guard }], guard := some (2, false) }) (v := ?v9) rfl (by kernel_rfl) (by kernel_rfl) (by kernel_rfl) (fun _ _ _ h => h) (Or.inl ⟨by rfl, ?y9⟩) hHeld ?r9
  case y9 => (intro w hSw; (try dsimp only at hSw); go_simp; (try with_reducible rfl))
  try simp only [Act.put, List.setIfInBounds_toArray, List.set_cons_zero, List.set_cons_succ]
  refine wpAnyH_take (i := 10) (oi := { dst := some 50, op := Op.fieldAddr 50 (Operand.tmp 49) 1, type := 0, pos := "law.go:76", after := #[{ on := 9, ground := Ground.data }, { on := 2, ground := Ground.guard }], guard := some (2, false) }) (v := ?v10) rfl (by kernel_rfl) (by kernel_rfl) (by kernel_rfl) (fun _ _ _ h => h) (Or.inl ⟨by rfl, ?y10⟩) hHeld ?r10
  case y10 => (intro w hSw; (try dsimp only at hSw); go_simp; (try with_reducible rfl))
  try simp only [Act.put, List.setIfInBounds_toArray, List.set_cons_zero, List.set_cons_succ]
  refine wpAnyH_ready (rs := [11]) (by kernel_rfl) (by simp) ?_
  refine AllReadyH.cons (o := { dst := some 51, op := Op.load 9 (Operand.tmp 50), type := 9, pos := "law.go:76", after := #[{ on := 10, ground := Ground.data }, { on := 2, ground := Ground.guard }], guard := some (2, false) }) rfl (fun K hK => ?_) AllReadyH.nil
  go_simp
  clear hHeld
  refine hK.out _ _ ?hS11 (fun hHeld => ?_)
  case hS11 => exact ⟨c0, c2⟩
  clear hK K
  try simp only [Act.put, List.setIfInBounds_toArray, List.set_cons_zero, List.set_cons_succ]
  refine wpAnyH_take (i := 12) (oi := { dst := some 52, op := Op.call { callee := Callee.builtin Builtin.len, args := #[Operand.tmp 51], argTypes := #[9] }, type := 3, pos := "law.go:76", after := #[{ on := 11, ground := Ground.data }, { on := 2, ground := Ground.guard }], guard := some (2, false) }) (v := ?v12) rfl (by kernel_rfl) (by kernel_rfl) (by kernel_rfl) (fun _ _ _ h => h) (Or.inl ⟨by rfl, ?y12⟩) hHeld ?r12
  case y12 => (intro w hSw; (try dsimp only at hSw); go_simp; (try with_reducible rfl))
  try simp only [Act.put, List.setIfInBounds_toArray, List.set_cons_zero, List.set_cons_succ]
  refine wpAnyH_take (i := 13) (oi := { dst := some 53, op := Op.binOp BinOp.lss 3 (Operand.tmp 45) (Operand.tmp 52) 3, type := 4, pos := "law.go:76", after := #[{ on := 5, ground := Ground.data }, { on := 12, ground := Ground.data }, { on := 2, ground := Ground.guard }], guard := some (2, false) }) (v := ?v13) rfl (by kernel_rfl) (by kernel_rfl) (by kernel_rfl) (fun _ _ _ h => h) (Or.inl ⟨by rfl, ?y13⟩) hHeld ?r13
  case y13 => (intro w hSw; (try dsimp only at hSw); go_simp; (try with_reducible rfl))
  try simp only [Act.put, List.setIfInBounds_toArray, List.set_cons_zero, List.set_cons_succ]
  refine wpAnyH_take (i := 14) (oi := { dst := some 54, op := Op.pick (Operand.tmp 42) (Operand.const (Value.bool true)) (Operand.tmp 53), type := 4, pos := "law.go:76", after := #[{ on := 2, ground := Ground.data }, { on := 13, ground := Ground.data }], guard := none }) (v := ?v14) rfl (by kernel_rfl) (by kernel_rfl) (by kernel_rfl) (fun _ _ _ h => h) (Or.inl ⟨by rfl, ?y14⟩) hHeld ?r14
  case y14 => (intro w hSw; (try dsimp only at hSw); go_simp; (try with_reducible rfl))
  try simp only [Act.put, List.setIfInBounds_toArray, List.set_cons_zero, List.set_cons_succ]
  refine wpAnyH_done (by kernel_rfl) ?_ _
  go_wp2
  have l5 := L3.out.lay true
  obtain ⟨d0, d1, d2, d3, d4, d5⟩ := l5.cells
  exact bodyPost_ret (v := .bool true) (by simp [results, Try.results14, go_sem, d4]) rfl ⟨rfl, l5.keeps.below (Nat.le_refl _) (by simp)⟩

set_option maxRecDepth 100000 in
set_option maxHeartbeats 16000000 in
theorem need_short6 (dst num : Int) (sa : Option Addr) (len cap : Nat) (h : len < 2) (w : World) :
    Calls Try.prog 14 #[.agg #[.int .i64 6, .int .i64 dst, .slice sa len cap, .int .i64 num]] w fun e w' => e = .returned (.bool true) ∧ Below w.heap.size w w' := by
  have hd : decide (10 < (len : Int)) = false := by simp; omega
  have hd2 : decide ((len : Int) < 2) = true := by simp; omega
  have CRO := kept rows_k
  have CN := kept (fun w => needs_short6 dst num sa len cap h w)
  obtain ⟨y, hy⟩ : ∃ y, ktakes 6 = y := ⟨_, rfl⟩
  have hys : y.size = 2 := by rw [← hy]; rfl
  have HK : Hid (kcells[19]? = some (.string y)) := by rw [← hy]; exact (kcell 6 (by decide)).2.1
  clear hy
  have L0 : Hid (LB w ((w.alloc (.cells #[.int .i64 6, .int .i64 dst, .slice sa len cap, .int .i64 num] 77)).alloc (.cells #[.bool false] 4)) 6 dst num (.slice sa len cap) false) := LB.start
  go_enter Try.func14, Try.ntmps14
  go_wp2_with fail
  generalize (w.alloc (.cells #[.int .i64 6, .int .i64 dst, .slice sa len cap, .int .i64 num] 77)).alloc (.cells #[.bool false] 4) = W0 at *
  refine (opslives _).mono ?_
  rintro e W1 ⟨rfl, k⟩
  have l1 := L0.out.next k
  clear k L0
  have L1 := kept l1
  clear l1
  obtain ⟨c0, c1, c2, c3, c4, c5⟩ := L1.out.cells

  go_wp2_with fail
  refine (CN.out _).mono ?_
  rintro e W2 ⟨rfl, k⟩
  have l2 := L1.out.next k
  clear k L1 c0 c1 c2 c3 c4 c5
  have L2 := kept l2
  clear l2
  obtain ⟨c0, c1, c2, c3, c4, c5⟩ := L2.out.cells

  have MB := kept (World.alloc_heap_new W2 (.map #[] 0))
  have l3 := L2.out.next ((Keeps.refl W2 []).alloc (.map #[] 0))
  have HG := kept L2.out.ge
  clear L2 c0 c1 c2 c3 c4 c5
  have L3 := kept l3
  clear l3
  have hmm := @run_makeMap Try.prog
  generalize hgm : W2.heap.size = gm at *
  go_upto_region 5 with (refine wpList_put _ rfl _ _ _ rfl gm _ _ _ _ rfl rfl rfl MB.out (by rfl) ?_; intro W3 mb km; replace L3 := kept (L3.out.nextB km HG.out); replace MB := kept mb; clear mb km)
  have hl := run_look _ _ _ _ MB.out 6 (some (1, .int .i64 20)) (by rfl)
  obtain ⟨c0, c1, c2, c3, c4, c5⟩ := L3.out.cells
  go_wp2_with fail
  clear hl MB hmm
  refine wp_region_held_drew (S := (fun w' => w'.cell? ⟨w.heap.size, 0, none⟩ = some (.int .i64 6) ∧ w'.cell? ⟨w.heap.size, 2, none⟩ = some (.slice sa len cap))) (by kernel_rfl) ?hSs (fun hHeld => ?_)
  case hSs => exact ⟨c0, c2⟩
  refine wpAnyH_take (i := 0) (oi := { dst := some 40, op := Op.move (Operand.tmp 8), type := 4, pos := "law.go:76", after := #[], guard := none }) (v := ?v0) rfl (by kernel_rfl) (by kernel_rfl) (by kernel_rfl) (fun _ _ _ h => h) (Or.inl ⟨by rfl, ?y0⟩) hHeld ?r0
  case y0 => (intro w hSw; (try dsimp only at hSw); go_simp; (try with_reducible rfl))
  try simp only [Act.put, List.setIfInBounds_toArray, List.set_cons_zero, List.set_cons_succ]
  refine wpAnyH_take (i := 1) (oi := { dst := some 41, op := Op.unOp UnOp.not 4 (Operand.tmp 40), type := 4, pos := "law.go:76", after := #[{ on := 0, ground := Ground.data }], guard := none }) (v := ?v1) rfl (by kernel_rfl) (by kernel_rfl) (by kernel_rfl) (fun _ _ _ h => h) (Or.inl ⟨by rfl, ?y1⟩) hHeld ?r1
  case y1 => (intro w hSw; (try dsimp only at hSw); go_simp; (try with_reducible rfl))
  try simp only [Act.put, List.setIfInBounds_toArray, List.set_cons_zero, List.set_cons_succ]
  refine wpAnyH_take (i := 2) (oi := { dst := some 42, op := Op.move (Operand.tmp 41), type := 4, pos := "law.go:76", after := #[{ on := 1, ground := Ground.data }], guard := none }) (v := ?v2) rfl (by kernel_rfl) (by kernel_rfl) (by kernel_rfl) (fun _ _ _ h => h) (Or.inl ⟨by rfl, ?y2⟩) hHeld ?r2
  case y2 => (intro w hSw; (try dsimp only at hSw); go_simp; (try with_reducible rfl))
  try simp only [Act.put, List.setIfInBounds_toArray, List.set_cons_zero, List.set_cons_succ]
  refine wpAnyH_take (i := 3) (oi := { dst := some 43, op := Op.fieldAddr 77 (Operand.tmp 1) 2, type := 0, pos := "law.go:76", after := #[{ on := 2, ground := Ground.guard }], guard := some (2, false) }) (v := ?v3) rfl (by kernel_rfl) (by kernel_rfl) (by kernel_rfl) (fun _ _ _ h => h) (Or.inl ⟨by rfl, ?y3⟩) hHeld ?r3
  case y3 => (intro w hSw; (try dsimp only at hSw); go_simp; (try with_reducible rfl))
  try simp only [Act.put, List.setIfInBounds_toArray, List.set_cons_zero, List.set_cons_succ]
  refine wpAnyH_take (i := 4) (oi := { dst := some 44, op := Op.load 58 (Operand.tmp 43), type := 58, pos := "law.go:76", after := #[{ on := 3, ground := Ground.data }, { on := 2, ground := Ground.guard }], guard := some (2, false) }) (v := ?v4) rfl (by kernel_rfl) (by kernel_rfl) (by kernel_rfl) (fun _ _ _ h => h) (Or.inl ⟨by rfl, ?y4⟩) hHeld ?r4
  case y4 => (intro w hSw; (try dsimp only at hSw); go_simp; (try with_reducible rfl))
  try simp only [Act.put, List.setIfInBounds_toArray, List.set_cons_zero, List.set_cons_succ]
  refine wpAnyH_take (i := 5) (oi := { dst := some 45, op := Op.call { callee := Callee.builtin Builtin.len, args := #[Operand.tmp 44], argTypes := #[58] }, type := 3, pos := "law.go:76", after := #[{ on := 4, ground := Ground.data }, { on := 2, ground := Ground.guard }], guard := some (2, false) }) (v := ?v5) rfl (by kernel_rfl) (by kernel_rfl) (by kernel_rfl) (fun _ _ _ h => h) (Or.inl ⟨by rfl, ?y5⟩) hHeld ?r5
  case y5 => (intro w hSw; (try dsimp only at hSw); go_simp; (try with_reducible rfl))
  try simp only [Act.put, List.setIfInBounds_toArray, List.set_cons_zero, List.set_cons_succ]
  refine wpAnyH_take (i := 7) (oi := { dst := some 47, op := Op.fieldAddr 77 (Operand.tmp 1) 0, type := 0, pos := "law.go:76", after := #[{ on := 2, ground := Ground.guard }], guard := some (2, false) }) (v := ?v7) rfl (by kernel_rfl) (by kernel_rfl) (by kernel_rfl) (fun _ _ _ h => h) (Or.inl ⟨by rfl, ?y7⟩) hHeld ?r7
  case y7 => (intro w hSw; (try dsimp only at hSw); go_simp; (try with_reducible rfl))
  try simp only [Act.put, List.setIfInBounds_toArray, List.set_cons_zero, List.set_cons_succ]
  refine wpAnyH_take (i := 8) (oi := { dst := some 48, op := Op.load 44 (Operand.tmp 47), type := 44, pos := "law.go:76", after := #[{ on := 7, ground := Ground.data }, { on := 2, ground := Ground.guard }], guard := some (2, false) }) (v := ?v8) rfl (by kernel_rfl) (by kernel_rfl) (by kernel_rfl) (fun _ _ _ h => h) (Or.inl ⟨by rfl, ?y8⟩) hHeld ?r8
  case y8 => (intro w hSw; (try dsimp only at hSw); go_simp; (try with_reducible rfl))
  try simp only [Act.put, List.setIfInBounds_toArray, List.set_cons_zero, List.set_cons_succ]
  refine wpAnyH_ready (rs := [6]) (by kernel_rfl) (by simp) ?_
  refine AllReadyH.cons (o := { dst := some 46, op := Op.call { callee := Callee.value (Operand.func 40), args := #[], argTypes := #[] }, type := 47, pos := "law.go:76", after := #[{ on := 2, ground := Ground.chain }, { on := 2, ground := Ground.guard }], guard := some (2, false) }) rfl (fun K hK => ?_) AllReadyH.nil
  go_simp
  (with_reducible refine (CRO.out _).mono ?_)
  rintro e wx ⟨rfl, k⟩
  show K _ _
  obtain ⟨k, rb⟩ := k
  have r1 : wx.cell? ⟨W3.heap.size, 19, none⟩ = some (.string y) := (rb.cell 19).trans HK.out
  clear rb
  have lx := L3.out.later k (by first | exact Keeps.refl _ [] | exact (Keeps.refl _ []).drew)
  clear k c0 c1 c2 c3 c4 c5 L3
  obtain ⟨c0, c1, c2, c3, c4, c5⟩ := lx.cells
  have L3 := kept lx
  clear lx
  clear hHeld
  refine hK.out _ _ ?hS6 (fun hHeld => ?_)
  case hS6 => exact ⟨c0, c2⟩
  clear hK K
  try simp only [Act.put, List.setIfInBounds_toArray, List.set_cons_zero, List.set_cons_succ]
  refine wpAnyH_take (i := 9) (oi := { dst := some 49, op := Op.indexAddr 47 (Operand.tmp 46) (Operand.tmp 48), type := 0, pos := "law.go:76", after := #[{ on := 6, ground := Ground.data }, { on := 8, ground := Ground.data }, { on := 2, ground := Ground.guard }], guard := some (2, false) }) (v := ?v9) rfl (by kernel_rfl) (by kernel_rfl) (by kernel_rfl) (fun _ _ _ h => h) (Or.inl ⟨by rfl, ?y9⟩) hHeld ?r9
  case y9 => (intro w hSw; (try dsimp only at hSw); go_simp; (try with_reducible rfl))
  try simp only [Act.put, List.setIfInBounds_toArray, List.set_cons_zero, List.set_cons_succ]
  refine wpAnyH_take (i := 10) (oi := { dst := some 50, op := Op.fieldAddr 50 (Operand.tmp 49) 1, type := 0, pos := "law.go:76", after := #[{ on := 9, ground := Ground.data }, { on := 2, ground := Ground.guard }], guard := some (2, false) }) (v := ?v10) rfl (by kernel_rfl) (by kernel_rfl) (by kernel_rfl) (fun _ _ _ h => h) (Or.inl ⟨by rfl, ?y10⟩) hHeld ?r10
  case y10 => (intro w hSw; (try dsimp only at hSw); go_simp; (try with_reducible rfl))
  try simp only [Act.put, List.setIfInBounds_toArray, List.set_cons_zero, List.set_cons_succ]
  refine wpAnyH_ready (rs := [11]) (by kernel_rfl) (by simp) ?_
  refine AllReadyH.cons (o := { dst := some 51, op := Op.load 9 (Operand.tmp 50), type := 9, pos := "law.go:76", after := #[{ on := 10, ground := Ground.data }, { on := 2, ground := Ground.guard }], guard := some (2, false) }) rfl (fun K hK => ?_) AllReadyH.nil
  go_simp
  clear hHeld
  refine hK.out _ _ ?hS11 (fun hHeld => ?_)
  case hS11 => exact ⟨c0, c2⟩
  clear hK K
  try simp only [Act.put, List.setIfInBounds_toArray, List.set_cons_zero, List.set_cons_succ]
  refine wpAnyH_take (i := 12) (oi := { dst := some 52, op := Op.call { callee := Callee.builtin Builtin.len, args := #[Operand.tmp 51], argTypes := #[9] }, type := 3, pos := "law.go:76", after := #[{ on := 11, ground := Ground.data }, { on := 2, ground := Ground.guard }], guard := some (2, false) }) (v := ?v12) rfl (by kernel_rfl) (by kernel_rfl) (by kernel_rfl) (fun _ _ _ h => h) (Or.inl ⟨by rfl, ?y12⟩) hHeld ?r12
  case y12 => (intro w hSw; (try dsimp only at hSw); go_simp; (try with_reducible rfl))
  try simp only [Act.put, List.setIfInBounds_toArray, List.set_cons_zero, List.set_cons_succ]
  refine wpAnyH_take (i := 13) (oi := { dst := some 53, op := Op.binOp BinOp.lss 3 (Operand.tmp 45) (Operand.tmp 52) 3, type := 4, pos := "law.go:76", after := #[{ on := 5, ground := Ground.data }, { on := 12, ground := Ground.data }, { on := 2, ground := Ground.guard }], guard := some (2, false) }) (v := ?v13) rfl (by kernel_rfl) (by kernel_rfl) (by kernel_rfl) (fun _ _ _ h => h) (Or.inl ⟨by rfl, ?y13⟩) hHeld ?r13
  case y13 => (intro w hSw; (try dsimp only at hSw); go_simp; (try with_reducible rfl))
  try simp only [Act.put, List.setIfInBounds_toArray, List.set_cons_zero, List.set_cons_succ]
  refine wpAnyH_take (i := 14) (oi := { dst := some 54, op := Op.pick (Operand.tmp 42) (Operand.const (Value.bool true)) (Operand.tmp 53), type := 4, pos := "law.go:76", after := #[{ on := 2, ground := Ground.data }, { on := 13, ground := Ground.data }], guard := none }) (v := ?v14) rfl (by kernel_rfl) (by kernel_rfl) (by kernel_rfl) (fun _ _ _ h => h) (Or.inl ⟨by rfl, ?y14⟩) hHeld ?r14
  case y14 => (intro w hSw; (try dsimp only at hSw); go_simp; (try with_reducible rfl))
  try simp only [Act.put, List.setIfInBounds_toArray, List.set_cons_zero, List.set_cons_succ]
  refine wpAnyH_done (by kernel_rfl) ?_ _
  go_wp2
  have l5 := L3.out.lay true
  obtain ⟨d0, d1, d2, d3, d4, d5⟩ := l5.cells
  exact bodyPost_ret (v := .bool true) (by simp [results, Try.results14, go_sem, d4]) rfl ⟨rfl, l5.keeps.below (Nat.le_refl _) (by simp)⟩

set_option maxRecDepth 100000 in
set_option maxHeartbeats 16000000 in
theorem need_short12 (dst num : Int) (sa : Option Addr) (len cap : Nat) (h : len < 1) (w : World) :
    Calls Try.prog 14 #[.agg #[.int .i64 12, .int .i64 dst, .slice sa len cap, .int .i64 num]] w fun e w' => e = .returned (.bool true) ∧ Below w.heap.size w w' := by
  have hd : decide (10 < (len : Int)) = false := by simp; omega
  have hd2 : decide ((len : Int) < 1) = true := by simp; omega
  have CRO := kept rows_k
  have CN := kept (fun w => needs_short12 dst num sa len cap h w)
  obtain ⟨y, hy⟩ : ∃ y, ktakes 12 = y := ⟨_, rfl⟩
  have hys : y.size = 1 := by rw [← hy]; rfl
  have HK : Hid (kcells[37]? = some (.string y)) := by rw [← hy]; exact (kcell 12 (by decide)).2.1
  clear hy
  have L0 : Hid (LB w ((w.alloc (.cells #[.int .i64 12, .int .i64 dst, .slice sa len cap, .int .i64 num] 77)).alloc (.cells #[.bool false] 4)) 12 dst num (.slice sa len cap) false) := LB.start
  go_enter Try.func14, Try.ntmps14
  go_wp2_with fail
  generalize (w.alloc (.cells #[.int .i64 12, .int .i64 dst, .slice sa len cap, .int .i64 num] 77)).alloc (.cells #[.bool false] 4) = W0 at *
  refine (opslives _).mono ?_
  rintro e W1 ⟨rfl, k⟩
  have l1 := L0.out.next k
  clear k L0
  have L1 := kept l1
  clear l1
  obtain ⟨c0, c1, c2, c3, c4, c5⟩ := L1.out.cells

  go_wp2_with fail
  refine (CN.out _).mono ?_
  rintro e W2 ⟨rfl, k⟩
  have l2 := L1.out.next k
  clear k L1 c0 c1 c2 c3 c4 c5
  have L2 := kept l2
  clear l2
  obtain ⟨c0, c1, c2, c3, c4, c5⟩ := L2.out.cells

  have MB := kept (World.alloc_heap_new W2 (.map #[] 0))
  have l3 := L2.out.next ((Keeps.refl W2 []).alloc (.map #[] 0))
  have HG := kept L2.out.ge
  clear L2 c0 c1 c2 c3 c4 c5
  have L3 := kept l3
  clear l3
  have hmm := @run_makeMap Try.prog
  generalize hgm : W2.heap.size = gm at *
  go_upto_region 5 with (refine wpList_put _ rfl _ _ _ rfl gm _ _ _ _ rfl rfl rfl MB.out (by rfl) ?_; intro W3 mb km; replace L3 := kept (L3.out.nextB km HG.out); replace MB := kept mb; clear mb km)
  have hl := run_look _ _ _ _ MB.out 12 (some (4, .int .i64 19)) (by rfl)
  obtain ⟨c0, c1, c2, c3, c4, c5⟩ := L3.out.cells
  go_wp2_with fail
  clear hl MB hmm
  refine wp_region_held_drew (S := (fun w' => w'.cell? ⟨w.heap.size, 0, none⟩ = some (.int .i64 12) ∧ w'.cell? ⟨w.heap.size, 2, none⟩ = some (.slice sa len cap))) (by kernel_rfl) ?hSs (fun hHeld => ?_)
  case hSs => exact ⟨c0, c2⟩
  refine wpAnyH_take (i := 0) (oi := { dst := some 40, op := Op.move (Operand.tmp 8), type := 4, pos := "law.go:76", after := #[], guard := none }) (v := ?v0) rfl (by kernel_rfl) (by kernel_rfl) (by kernel_rfl) (fun _ _ _ h => h) (Or.inl ⟨by rfl, ?y0⟩) hHeld ?r0
  case y0 => (intro w hSw; (try dsimp only at hSw); go_simp; (try with_reducible rfl))
  try simp only [Act.put, List.setIfInBounds_toArray, List.set_cons_zero, List.set_cons_succ]
  refine wpAnyH_take (i := 1) (oi := { dst := some 41, op := Op.unOp UnOp.not 4 (Operand.tmp 40), type := 4, pos := "law.go:76", after := #[{ on := 0, ground := Ground.data }], guard := none }) (v := ?v1) rfl (by kernel_rfl) (by kernel_rfl) (by kernel_rfl) (fun _ _ _ h => h) (Or.inl ⟨by rfl, ?y1⟩) hHeld ?r1
  case y1 => (intro w hSw; (try dsimp only at hSw); go_simp; (try with_reducible rfl))
  try simp only [Act.put, List.setIfInBounds_toArray, List.set_cons_zero, List.set_cons_succ]
  refine wpAnyH_take (i := 2) (oi := { dst := some 42, op := Op.move (Operand.tmp 41), type := 4, pos := "law.go:76", after := #[{ on := 1, ground := Ground.data }], guard := none }) (v := ?v2) rfl (by kernel_rfl) (by kernel_rfl) (by kernel_rfl) (fun _ _ _ h => h) (Or.inl ⟨by rfl, ?y2⟩) hHeld ?r2
  case y2 => (intro w hSw; (try dsimp only at hSw); go_simp; (try with_reducible rfl))
  try simp only [Act.put, List.setIfInBounds_toArray, List.set_cons_zero, List.set_cons_succ]
  refine wpAnyH_take (i := 3) (oi := { dst := some 43, op := Op.fieldAddr 77 (Operand.tmp 1) 2, type := 0, pos := "law.go:76", after := #[{ on := 2, ground := Ground.guard }], guard := some (2, false) }) (v := ?v3) rfl (by kernel_rfl) (by kernel_rfl) (by kernel_rfl) (fun _ _ _ h => h) (Or.inl ⟨by rfl, ?y3⟩) hHeld ?r3
  case y3 => (intro w hSw; (try dsimp only at hSw); go_simp; (try with_reducible rfl))
  try simp only [Act.put, List.setIfInBounds_toArray, List.set_cons_zero, List.set_cons_succ]
  refine wpAnyH_take (i := 4) (oi := { dst := some 44, op := Op.load 58 (Operand.tmp 43), type := 58, pos := "law.go:76", after := #[{ on := 3, ground := Ground.data }, { on := 2, ground := Ground.guard }], guard := some (2, false) }) (v := ?v4) rfl (by kernel_rfl) (by kernel_rfl) (by kernel_rfl) (fun _ _ _ h => h) (Or.inl ⟨by rfl, ?y4⟩) hHeld ?r4
  case y4 => (intro w hSw; (try dsimp only at hSw); go_simp; (try with_reducible rfl))
  try simp only [Act.put, List.setIfInBounds_toArray, List.set_cons_zero, List.set_cons_succ]
  refine wpAnyH_take (i := 5) (oi := { dst := some 45, op := Op.call { callee := Callee.builtin Builtin.len, args := #[Operand.tmp 44], argTypes := #[58] }, type := 3, pos := "law.go:76", after := #[{ on := 4, ground := Ground.data }, { on := 2, ground := Ground.guard }], guard := some (2, false) }) (v := ?v5) rfl (by kernel_rfl) (by kernel_rfl) (by kernel_rfl) (fun _ _ _ h => h) (Or.inl ⟨by rfl, ?y5⟩) hHeld ?r5
  case y5 => (intro w hSw; (try dsimp only at hSw); go_simp; (try with_reducible rfl))
  try simp only [Act.put, List.setIfInBounds_toArray, List.set_cons_zero, List.set_cons_succ]
  refine wpAnyH_take (i := 7) (oi := { dst := some 47, op := Op.fieldAddr 77 (Operand.tmp 1) 0, type := 0, pos := "law.go:76", after := #[{ on := 2, ground := Ground.guard }], guard := some (2, false) }) (v := ?v7) rfl (by kernel_rfl) (by kernel_rfl) (by kernel_rfl) (fun _ _ _ h => h) (Or.inl ⟨by rfl, ?y7⟩) hHeld ?r7
  case y7 => (intro w hSw; (try dsimp only at hSw); go_simp; (try with_reducible rfl))
  try simp only [Act.put, List.setIfInBounds_toArray, List.set_cons_zero, List.set_cons_succ]
  refine wpAnyH_take (i := 8) (oi := { dst := some 48, op := Op.load 44 (Operand.tmp 47), type := 44, pos := "law.go:76", after := #[{ on := 7, ground := Ground.data }, { on := 2, ground := Ground.guard }], guard := some (2, false) }) (v := ?v8) rfl (by kernel_rfl) (by kernel_rfl) (by kernel_rfl) (fun _ _ _ h => h) (Or.inl ⟨by rfl, ?y8⟩) hHeld ?r8
  case y8 => (intro w hSw; (try dsimp only at hSw); go_simp; (try with_reducible rfl))
  try simp only [Act.put, List.setIfInBounds_toArray, List.set_cons_zero, List.set_cons_succ]
  refine wpAnyH_ready (rs := [6]) (by kernel_rfl) (by simp) ?_
  refine AllReadyH.cons (o := { dst := some 46, op := Op.call { callee := Callee.value (Operand.func 40), args := #[], argTypes := #[] }, type := 47, pos := "law.go:76", after := #[{ on := 2, ground := Ground.chain }, { on := 2, ground := Ground.guard }], guard := some (2, false) }) rfl (fun K hK => ?_) AllReadyH.nil
  go_simp
  (with_reducible refine (CRO.out _).mono ?_)
  rintro e wx ⟨rfl, k⟩
  show K _ _
  obtain ⟨k, rb⟩ := k
  have r1 : wx.cell? ⟨W3.heap.size, 37, none⟩ = some (.string y) := (rb.cell 37).trans HK.out
  clear rb
  have lx := L3.out.later k (by first | exact Keeps.refl _ [] | exact (Keeps.refl _ []).drew)
  clear k c0 c1 c2 c3 c4 c5 L3
  obtain ⟨c0, c1, c2, c3, c4, c5⟩ := lx.cells
  have L3 := kept lx
  clear lx
  clear hHeld
  refine hK.out _ _ ?hS6 (fun hHeld => ?_)
  case hS6 => exact ⟨c0, c2⟩
  clear hK K
  try simp only [Act.put, List.setIfInBounds_toArray, List.set_cons_zero, List.set_cons_succ]
  refine wpAnyH_take (i := 9) (oi := { dst := some 49, op := Op.indexAddr 47 (Operand.tmp 46) (Operand.tmp 48), type := 0, pos := "law.go:76", after := #[{ on := 6, ground := Ground.data }, { on := 8, ground := Ground.data }, { on := 2, ground := Ground.guard }], guard := some (2, false) }) (v := ?v9) rfl (by kernel_rfl) (by kernel_rfl) (by kernel_rfl) (fun _ _ _ h => h) (Or.inl ⟨by rfl, ?y9⟩) hHeld ?r9
  case y9 => (intro w hSw; (try dsimp only at hSw); go_simp; (try with_reducible rfl))
  try simp only [Act.put, List.setIfInBounds_toArray, List.set_cons_zero, List.set_cons_succ]
  refine wpAnyH_take (i := 10) (oi := { dst := some 50, op := Op.fieldAddr 50 (Operand.tmp 49) 1, type := 0, pos := "law.go:76", after := #[{ on := 9, ground := Ground.data }, { on := 2, ground := Ground.guard }], guard := some (2, false) }) (v := ?v10) rfl (by kernel_rfl) (by kernel_rfl) (by kernel_rfl) (fun _ _ _ h => h) (Or.inl ⟨by rfl, ?y10⟩) hHeld ?r10
  case y10 => (intro w hSw; (try dsimp only at hSw); go_simp; (try with_reducible rfl))
  try simp only [Act.put, List.setIfInBounds_toArray, List.set_cons_zero, List.set_cons_succ]
  refine wpAnyH_ready (rs := [11]) (by kernel_rfl) (by simp) ?_
  refine AllReadyH.cons (o := { dst := some 51, op := Op.load 9 (Operand.tmp 50), type := 9, pos := "law.go:76", after := #[{ on := 10, ground := Ground.data }, { on := 2, ground := Ground.guard }], guard := some (2, false) }) rfl (fun K hK => ?_) AllReadyH.nil
  go_simp
  clear hHeld
  refine hK.out _ _ ?hS11 (fun hHeld => ?_)
  case hS11 => exact ⟨c0, c2⟩
  clear hK K
  try simp only [Act.put, List.setIfInBounds_toArray, List.set_cons_zero, List.set_cons_succ]
  refine wpAnyH_take (i := 12) (oi := { dst := some 52, op := Op.call { callee := Callee.builtin Builtin.len, args := #[Operand.tmp 51], argTypes := #[9] }, type := 3, pos := "law.go:76", after := #[{ on := 11, ground := Ground.data }, { on := 2, ground := Ground.guard }], guard := some (2, false) }) (v := ?v12) rfl (by kernel_rfl) (by kernel_rfl) (by kernel_rfl) (fun _ _ _ h => h) (Or.inl ⟨by rfl, ?y12⟩) hHeld ?r12
  case y12 => (intro w hSw; (try dsimp only at hSw); go_simp; (try with_reducible rfl))
  try simp only [Act.put, List.setIfInBounds_toArray, List.set_cons_zero, List.set_cons_succ]
  refine wpAnyH_take (i := 13) (oi := { dst := some 53, op := Op.binOp BinOp.lss 3 (Operand.tmp 45) (Operand.tmp 52) 3, type := 4, pos := "law.go:76", after := #[{ on := 5, ground := Ground.data }, { on := 12, ground := Ground.data }, { on := 2, ground := Ground.guard }], guard := some (2, false) }) (v := ?v13) rfl (by kernel_rfl) (by kernel_rfl) (by kernel_rfl) (fun _ _ _ h => h) (Or.inl ⟨by rfl, ?y13⟩) hHeld ?r13
  case y13 => (intro w hSw; (try dsimp only at hSw); go_simp; (try with_reducible rfl))
  try simp only [Act.put, List.setIfInBounds_toArray, List.set_cons_zero, List.set_cons_succ]
  refine wpAnyH_take (i := 14) (oi := { dst := some 54, op := Op.pick (Operand.tmp 42) (Operand.const (Value.bool true)) (Operand.tmp 53), type := 4, pos := "law.go:76", after := #[{ on := 2, ground := Ground.data }, { on := 13, ground := Ground.data }], guard := none }) (v := ?v14) rfl (by kernel_rfl) (by kernel_rfl) (by kernel_rfl) (fun _ _ _ h => h) (Or.inl ⟨by rfl, ?y14⟩) hHeld ?r14
  case y14 => (intro w hSw; (try dsimp only at hSw); go_simp; (try with_reducible rfl))
  try simp only [Act.put, List.setIfInBounds_toArray, List.set_cons_zero, List.set_cons_succ]
  refine wpAnyH_done (by kernel_rfl) ?_ _
  go_wp2
  have l5 := L3.out.lay true
  obtain ⟨d0, d1, d2, d3, d4, d5⟩ := l5.cells
  exact bodyPost_ret (v := .bool true) (by simp [results, Try.results14, go_sem, d4]) rfl ⟨rfl, l5.keeps.below (Nat.le_refl _) (by simp)⟩

set_option maxRecDepth 100000 in
set_option maxHeartbeats 16000000 in
theorem need_short13 (dst num : Int) (sa : Option Addr) (len cap : Nat) (h : len < 2) (w : World) :
    Calls Try.prog 14 #[.agg #[.int .i64 13, .int .i64 dst, .slice sa len cap, .int .i64 num]] w fun e w' => e = .returned (.bool true) ∧ Below w.heap.size w w' := by
  have hd : decide (10 < (len : Int)) = false := by simp; omega
  have hd2 : decide ((len : Int) < 2) = true := by simp; omega
  have CRO := kept rows_k
  have CN := kept (fun w => needs_short13 dst num sa len cap h w)
  obtain ⟨y, hy⟩ : ∃ y, ktakes 13 = y := ⟨_, rfl⟩
  have hys : y.size = 2 := by rw [← hy]; rfl
  have HK : Hid (kcells[40]? = some (.string y)) := by rw [← hy]; exact (kcell 13 (by decide)).2.1
  clear hy
  have L0 : Hid (LB w ((w.alloc (.cells #[.int .i64 13, .int .i64 dst, .slice sa len cap, .int .i64 num] 77)).alloc (.cells #[.bool false] 4)) 13 dst num (.slice sa len cap) false) := LB.start
  go_enter Try.func14, Try.ntmps14
  go_wp2_with fail
  generalize (w.alloc (.cells #[.int .i64 13, .int .i64 dst, .slice sa len cap, .int .i64 num] 77)).alloc (.cells #[.bool false] 4) = W0 at *
  refine (opslives _).mono ?_
  rintro e W1 ⟨rfl, k⟩
  have l1 := L0.out.next k
  clear k L0
  have L1 := kept l1
  clear l1
  obtain ⟨c0, c1, c2, c3, c4, c5⟩ := L1.out.cells

  go_wp2_with fail
  refine (CN.out _).mono ?_
  rintro e W2 ⟨rfl, k⟩
  have l2 := L1.out.next k
  clear k L1 c0 c1 c2 c3 c4 c5
  have L2 := kept l2
  clear l2
  obtain ⟨c0, c1, c2, c3, c4, c5⟩ := L2.out.cells

  have MB := kept (World.alloc_heap_new W2 (.map #[] 0))
  have l3 := L2.out.next ((Keeps.refl W2 []).alloc (.map #[] 0))
  have HG := kept L2.out.ge
  clear L2 c0 c1 c2 c3 c4 c5
  have L3 := kept l3
  clear l3
  have hmm := @run_makeMap Try.prog
  generalize hgm : W2.heap.size = gm at *
  go_upto_region 5 with (refine wpList_put _ rfl _ _ _ rfl gm _ _ _ _ rfl rfl rfl MB.out (by rfl) ?_; intro W3 mb km; replace L3 := kept (L3.out.nextB km HG.out); replace MB := kept mb; clear mb km)
  have hl := run_look _ _ _ _ MB.out 13 (some (2, .int .i64 18)) (by rfl)
  obtain ⟨c0, c1, c2, c3, c4, c5⟩ := L3.out.cells
  go_wp2_with fail
  clear hl MB hmm
  refine wp_region_held_drew (S := (fun w' => w'.cell? ⟨w.heap.size, 0, none⟩ = some (.int .i64 13) ∧ w'.cell? ⟨w.heap.size, 2, none⟩ = some (.slice sa len cap))) (by kernel_rfl) ?hSs (fun hHeld => ?_)
  case hSs => exact ⟨c0, c2⟩
  refine wpAnyH_take (i := 0) (oi := { dst := some 40, op := Op.move (Operand.tmp 8), type := 4, pos := "law.go:76", after := #[], guard := none }) (v := ?v0) rfl (by kernel_rfl) (by kernel_rfl) (by kernel_rfl) (fun _ _ _ h => h) (Or.inl ⟨by rfl, ?y0⟩) hHeld ?r0
  case y0 => (intro w hSw; (try dsimp only at hSw); go_simp; (try with_reducible rfl))
  try simp only [Act.put, List.setIfInBounds_toArray, List.set_cons_zero, List.set_cons_succ]
  refine wpAnyH_take (i := 1) (oi := { dst := some 41, op := Op.unOp UnOp.not 4 (Operand.tmp 40), type := 4, pos := "law.go:76", after := #[{ on := 0, ground := Ground.data }], guard := none }) (v := ?v1) rfl (by kernel_rfl) (by kernel_rfl) (by kernel_rfl) (fun _ _ _ h => h) (Or.inl ⟨by rfl, ?y1⟩) hHeld ?r1
  case y1 => (intro w hSw; (try dsimp only at hSw); go_simp; (try with_reducible rfl))
  try simp only [Act.put, List.setIfInBounds_toArray, List.set_cons_zero, List.set_cons_succ]
  refine wpAnyH_take (i := 2) (oi := { dst := some 42, op := Op.move (Operand.tmp 41), type := 4, pos := "law.go:76", after := #[{ on := 1, ground := Ground.data }], guard := none }) (v := ?v2) rfl (by kernel_rfl) (by kernel_rfl) (by kernel_rfl) (fun _ _ _ h => h) (Or.inl ⟨by rfl, ?y2⟩) hHeld ?r2
  case y2 => (intro w hSw; (try dsimp only at hSw); go_simp; (try with_reducible rfl))
  try simp only [Act.put, List.setIfInBounds_toArray, List.set_cons_zero, List.set_cons_succ]
  refine wpAnyH_take (i := 3) (oi := { dst := some 43, op := Op.fieldAddr 77 (Operand.tmp 1) 2, type := 0, pos := "law.go:76", after := #[{ on := 2, ground := Ground.guard }], guard := some (2, false) }) (v := ?v3) rfl (by kernel_rfl) (by kernel_rfl) (by kernel_rfl) (fun _ _ _ h => h) (Or.inl ⟨by rfl, ?y3⟩) hHeld ?r3
  case y3 => (intro w hSw; (try dsimp only at hSw); go_simp; (try with_reducible rfl))
  try simp only [Act.put, List.setIfInBounds_toArray, List.set_cons_zero, List.set_cons_succ]
  refine wpAnyH_take (i := 4) (oi := { dst := some 44, op := Op.load 58 (Operand.tmp 43), type := 58, pos := "law.go:76", after := #[{ on := 3, ground := Ground.data }, { on := 2, ground := Ground.guard }], guard := some (2, false) }) (v := ?v4) rfl (by kernel_rfl) (by kernel_rfl) (by kernel_rfl) (fun _ _ _ h => h) (Or.inl ⟨by rfl, ?y4⟩) hHeld ?r4
  case y4 => (intro w hSw; (try dsimp only at hSw); go_simp; (try with_reducible rfl))
  try simp only [Act.put, List.setIfInBounds_toArray, List.set_cons_zero, List.set_cons_succ]
  refine wpAnyH_take (i := 5) (oi := { dst := some 45, op := Op.call { callee := Callee.builtin Builtin.len, args := #[Operand.tmp 44], argTypes := #[58] }, type := 3, pos := "law.go:76", after := #[{ on := 4, ground := Ground.data }, { on := 2, ground := Ground.guard }], guard := some (2, false) }) (v := ?v5) rfl (by kernel_rfl) (by kernel_rfl) (by kernel_rfl) (fun _ _ _ h => h) (Or.inl ⟨by rfl, ?y5⟩) hHeld ?r5
  case y5 => (intro w hSw; (try dsimp only at hSw); go_simp; (try with_reducible rfl))
  try simp only [Act.put, List.setIfInBounds_toArray, List.set_cons_zero, List.set_cons_succ]
  refine wpAnyH_take (i := 7) (oi := { dst := some 47, op := Op.fieldAddr 77 (Operand.tmp 1) 0, type := 0, pos := "law.go:76", after := #[{ on := 2, ground := Ground.guard }], guard := some (2, false) }) (v := ?v7) rfl (by kernel_rfl) (by kernel_rfl) (by kernel_rfl) (fun _ _ _ h => h) (Or.inl ⟨by rfl, ?y7⟩) hHeld ?r7
  case y7 => (intro w hSw; (try dsimp only at hSw); go_simp; (try with_reducible rfl))
  try simp only [Act.put, List.setIfInBounds_toArray, List.set_cons_zero, List.set_cons_succ]
  refine wpAnyH_take (i := 8) (oi := { dst := some 48, op := Op.load 44 (Operand.tmp 47), type := 44, pos := "law.go:76", after := #[{ on := 7, ground := Ground.data }, { on := 2, ground := Ground.guard }], guard := some (2, false) }) (v := ?v8) rfl (by kernel_rfl) (by kernel_rfl) (by kernel_rfl) (fun _ _ _ h => h) (Or.inl ⟨by rfl, ?y8⟩) hHeld ?r8
  case y8 => (intro w hSw; (try dsimp only at hSw); go_simp; (try with_reducible rfl))
  try simp only [Act.put, List.setIfInBounds_toArray, List.set_cons_zero, List.set_cons_succ]
  refine wpAnyH_ready (rs := [6]) (by kernel_rfl) (by simp) ?_
  refine AllReadyH.cons (o := { dst := some 46, op := Op.call { callee := Callee.value (Operand.func 40), args := #[], argTypes := #[] }, type := 47, pos := "law.go:76", after := #[{ on := 2, ground := Ground.chain }, { on := 2, ground := Ground.guard }], guard := some (2, false) }) rfl (fun K hK => ?_) AllReadyH.nil
  go_simp
  (with_reducible refine (CRO.out _).mono ?_)
  rintro e wx ⟨rfl, k⟩
  show K _ _
  obtain ⟨k, rb⟩ := k
  have r1 : wx.cell? ⟨W3.heap.size, 40, none⟩ = some (.string y) := (rb.cell 40).trans HK.out
  clear rb
  have lx := L3.out.later k (by first | exact Keeps.refl _ [] | exact (Keeps.refl _ []).drew)
  clear k c0 c1 c2 c3 c4 c5 L3
  obtain ⟨c0, c1, c2, c3, c4, c5⟩ := lx.cells
  have L3 := kept lx
  clear lx
  clear hHeld
  refine hK.out _ _ ?hS6 (fun hHeld => ?_)
  case hS6 => exact ⟨c0, c2⟩
  clear hK K
  try simp only [Act.put, List.setIfInBounds_toArray, List.set_cons_zero, List.set_cons_succ]
  refine wpAnyH_take (i := 9) (oi := { dst := some 49, op := Op.indexAddr 47 (Operand.tmp 46) (Operand.tmp 48), type := 0, pos := "law.go:76", after := #[{ on := 6, ground := Ground.data }, { on := 8, ground := Ground.data }, { on := 2, ground := Ground.guard }], guard := some (2, false) }) (v := ?v9) rfl (by kernel_rfl) (by kernel_rfl) (by kernel_rfl) (fun _ _ _ h => h) (Or.inl ⟨by rfl, ?y9⟩) hHeld ?r9
  case y9 => (intro w hSw; (try dsimp only at hSw); go_simp; (try with_reducible rfl))
  try simp only [Act.put, List.setIfInBounds_toArray, List.set_cons_zero, List.set_cons_succ]
  refine wpAnyH_take (i := 10) (oi := { dst := some 50, op := Op.fieldAddr 50 (Operand.tmp 49) 1, type := 0, pos := "law.go:76", after := #[{ on := 9, ground := Ground.data }, { on := 2, ground := Ground.guard }], guard := some (2, false) }) (v := ?v10) rfl (by kernel_rfl) (by kernel_rfl) (by kernel_rfl) (fun _ _ _ h => h) (Or.inl ⟨by rfl, ?y10⟩) hHeld ?r10
  case y10 => (intro w hSw; (try dsimp only at hSw); go_simp; (try with_reducible rfl))
  try simp only [Act.put, List.setIfInBounds_toArray, List.set_cons_zero, List.set_cons_succ]
  refine wpAnyH_ready (rs := [11]) (by kernel_rfl) (by simp) ?_
  refine AllReadyH.cons (o := { dst := some 51, op := Op.load 9 (Operand.tmp 50), type := 9, pos := "law.go:76", after := #[{ on := 10, ground := Ground.data }, { on := 2, ground := Ground.guard }], guard := some (2, false) }) rfl (fun K hK => ?_) AllReadyH.nil
  go_simp
  clear hHeld
  refine hK.out _ _ ?hS11 (fun hHeld => ?_)
  case hS11 => exact ⟨c0, c2⟩
  clear hK K
  try simp only [Act.put, List.setIfInBounds_toArray, List.set_cons_zero, List.set_cons_succ]
  refine wpAnyH_take (i := 12) (oi := { dst := some 52, op := Op.call { callee := Callee.builtin Builtin.len, args := #[Operand.tmp 51], argTypes := #[9] }, type := 3, pos := "law.go:76", after := #[{ on := 11, ground := Ground.data }, { on := 2, ground := Ground.guard }], guard := some (2, false) }) (v := ?v12) rfl (by kernel_rfl) (by kernel_rfl) (by kernel_rfl) (fun _ _ _ h => h) (Or.inl ⟨by rfl, ?y12⟩) hHeld ?r12
  case y12 => (intro w hSw; (try dsimp only at hSw); go_simp; (try with_reducible rfl))
  try simp only [Act.put, List.setIfInBounds_toArray, List.set_cons_zero, List.set_cons_succ]
  refine wpAnyH_take (i := 13) (oi := { dst := some 53, op := Op.binOp BinOp.lss 3 (Operand.tmp 45) (Operand.tmp 52) 3, type := 4, pos := "law.go:76", after := #[{ on := 5, ground := Ground.data }, { on := 12, ground := Ground.data }, { on := 2, ground := Ground.guard }], guard := some (2, false) }) (v := ?v13) rfl (by kernel_rfl) (by kernel_rfl) (by kernel_rfl) (fun _ _ _ h => h) (Or.inl ⟨by rfl, ?y13⟩) hHeld ?r13
  case y13 => (intro w hSw; (try dsimp only at hSw); go_simp; (try with_reducible rfl))
  try simp only [Act.put, List.setIfInBounds_toArray, List.set_cons_zero, List.set_cons_succ]
  refine wpAnyH_take (i := 14) (oi := { dst := some 54, op := Op.pick (Operand.tmp 42) (Operand.const (Value.bool true)) (Operand.tmp 53), type := 4, pos := "law.go:76", after := #[{ on := 2, ground := Ground.data }, { on := 13, ground := Ground.data }], guard := none }) (v := ?v14) rfl (by kernel_rfl) (by kernel_rfl) (by kernel_rfl) (fun _ _ _ h => h) (Or.inl ⟨by rfl, ?y14⟩) hHeld ?r14
  case y14 => (intro w hSw; (try dsimp only at hSw); go_simp; (try with_reducible rfl))
  try simp only [Act.put, List.setIfInBounds_toArray, List.set_cons_zero, List.set_cons_succ]
  refine wpAnyH_done (by kernel_rfl) ?_ _
  go_wp2
  have l5 := L3.out.lay true
  obtain ⟨d0, d1, d2, d3, d4, d5⟩ := l5.cells
  exact bodyPost_ret (v := .bool true) (by simp [results, Try.results14, go_sem, d4]) rfl ⟨rfl, l5.keeps.below (Nat.le_refl _) (by simp)⟩

set_option maxRecDepth 100000 in
set_option maxHeartbeats 16000000 in
theorem need_short14 (dst num : Int) (sa : Option Addr) (len cap : Nat) (h : len < 3) (w : World) :
    Calls Try.prog 14 #[.agg #[.int .i64 14, .int .i64 dst, .slice sa len cap, .int .i64 num]] w fun e w' => e = .returned (.bool true) ∧ Below w.heap.size w w' := by
  have hd : decide (10 < (len : Int)) = false := by simp; omega
  have hd2 : decide ((len : Int) < 3) = true := by simp; omega
  have CRO := kept rows_k
  have CN := kept (fun w => needs_short14 dst num sa len cap h w)
  obtain ⟨y, hy⟩ : ∃ y, ktakes 14 = y := ⟨_, rfl⟩
  have hys : y.size = 3 := by rw [← hy]; rfl
  have HK : Hid (kcells[43]? = some (.string y)) := by rw [← hy]; exact (kcell 14 (by decide)).2.1
  clear hy
  have L0 : Hid (LB w ((w.alloc (.cells #[.int .i64 14, .int .i64 dst, .slice sa len cap, .int .i64 num] 77)).alloc (.cells #[.bool false] 4)) 14 dst num (.slice sa len cap) false) := LB.start
  go_enter Try.func14, Try.ntmps14
  go_wp2_with fail
  generalize (w.alloc (.cells #[.int .i64 14, .int .i64 dst, .slice sa len cap, .int .i64 num] 77)).alloc (.cells #[.bool false] 4) = W0 at *
  refine (opslives _).mono ?_
  rintro e W1 ⟨rfl, k⟩
  have l1 := L0.out.next k
  clear k L0
  have L1 := kept l1
  clear l1
  obtain ⟨c0, c1, c2, c3, c4, c5⟩ := L1.out.cells

  go_wp2_with fail
  refine (CN.out _).mono ?_
  rintro e W2 ⟨rfl, k⟩
  have l2 := L1.out.next k
  clear k L1 c0 c1 c2 c3 c4 c5
  have L2 := kept l2
  clear l2
  obtain ⟨c0, c1, c2, c3, c4, c5⟩ := L2.out.cells

  have MB := kept (World.alloc_heap_new W2 (.map #[] 0))
  have l3 := L2.out.next ((Keeps.refl W2 []).alloc (.map #[] 0))
  have HG := kept L2.out.ge
  clear L2 c0 c1 c2 c3 c4 c5
  have L3 := kept l3
  clear l3
  have hmm := @run_makeMap Try.prog
  generalize hgm : W2.heap.size = gm at *
  go_upto_region 5 with (refine wpList_put _ rfl _ _ _ rfl gm _ _ _ _ rfl rfl rfl MB.out (by rfl) ?_; intro W3 mb km; replace L3 := kept (L3.out.nextB km HG.out); replace MB := kept mb; clear mb km)
  have hl := run_look _ _ _ _ MB.out 14 (some (3, .int .i64 18)) (by rfl)
  obtain ⟨c0, c1, c2, c3, c4, c5⟩ := L3.out.cells
  go_wp2_with fail
  clear hl MB hmm
  refine wp_region_held_drew (S := (fun w' => w'.cell? ⟨w.heap.size, 0, none⟩ = some (.int .i64 14) ∧ w'.cell? ⟨w.heap.size, 2, none⟩ = some (.slice sa len cap))) (by kernel_rfl) ?hSs (fun hHeld => ?_)
  case hSs => exact ⟨c0, c2⟩
  refine wpAnyH_take (i := 0) (oi := { dst := some 40, op := Op.move (Operand.tmp 8), type := 4, pos := "law.go:76", after := #[], guard := none }) (v := ?v0) rfl (by kernel_rfl) (by kernel_rfl) (by kernel_rfl) (fun _ _ _ h => h) (Or.inl ⟨by rfl, ?y0⟩) hHeld ?r0
  case y0 => (intro w hSw; (try dsimp only at hSw); go_simp; (try with_reducible rfl))
  try simp only [Act.put, List.setIfInBounds_toArray, List.set_cons_zero, List.set_cons_succ]
  refine wpAnyH_take (i := 1) (oi := { dst := some 41, op := Op.unOp UnOp.not 4 (Operand.tmp 40), type := 4, pos := "law.go:76", after := #[{ on := 0, ground := Ground.data }], guard := none }) (v := ?v1) rfl (by kernel_rfl) (by kernel_rfl) (by kernel_rfl) (fun _ _ _ h => h) (Or.inl ⟨by rfl, ?y1⟩) hHeld ?r1
  case y1 => (intro w hSw; (try dsimp only at hSw); go_simp; (try with_reducible rfl))
  try simp only [Act.put, List.setIfInBounds_toArray, List.set_cons_zero, List.set_cons_succ]
  refine wpAnyH_take (i := 2) (oi := { dst := some 42, op := Op.move (Operand.tmp 41), type := 4, pos := "law.go:76", after := #[{ on := 1, ground := Ground.data }], guard := none }) (v := ?v2) rfl (by kernel_rfl) (by kernel_rfl) (by kernel_rfl) (fun _ _ _ h => h) (Or.inl ⟨by rfl, ?y2⟩) hHeld ?r2
  case y2 => (intro w hSw; (try dsimp only at hSw); go_simp; (try with_reducible rfl))
  try simp only [Act.put, List.setIfInBounds_toArray, List.set_cons_zero, List.set_cons_succ]
  refine wpAnyH_take (i := 3) (oi := { dst := some 43, op := Op.fieldAddr 77 (Operand.tmp 1) 2, type := 0, pos := "law.go:76", after := #[{ on := 2, ground := Ground.guard }], guard := some (2, false) }) (v := ?v3) rfl (by kernel_rfl) (by kernel_rfl) (by kernel_rfl) (fun _ _ _ h => h) (Or.inl ⟨by rfl, ?y3⟩) hHeld ?r3
  case y3 => (intro w hSw; (try dsimp only at hSw); go_simp; (try with_reducible rfl))
  try simp only [Act.put, List.setIfInBounds_toArray, List.set_cons_zero, List.set_cons_succ]
  refine wpAnyH_take (i := 4) (oi := { dst := some 44, op := Op.load 58 (Operand.tmp 43), type := 58, pos := "law.go:76", after := #[{ on := 3, ground := Ground.data }, { on := 2, ground := Ground.guard }], guard := some (2, false) }) (v := ?v4) rfl (by kernel_rfl) (by kernel_rfl) (by kernel_rfl) (fun _ _ _ h => h) (Or.inl ⟨by rfl, ?y4⟩) hHeld ?r4
  case y4 => (intro w hSw; (try dsimp only at hSw); go_simp; (try with_reducible rfl))
  try simp only [Act.put, List.setIfInBounds_toArray, List.set_cons_zero, List.set_cons_succ]
  refine wpAnyH_take (i := 5) (oi := { dst := some 45, op := Op.call { callee := Callee.builtin Builtin.len, args := #[Operand.tmp 44], argTypes := #[58] }, type := 3, pos := "law.go:76", after := #[{ on := 4, ground := Ground.data }, { on := 2, ground := Ground.guard }], guard := some (2, false) }) (v := ?v5) rfl (by kernel_rfl) (by kernel_rfl) (by kernel_rfl) (fun _ _ _ h => h) (Or.inl ⟨by rfl, ?y5⟩) hHeld ?r5
  case y5 => (intro w hSw; (try dsimp only at hSw); go_simp; (try with_reducible rfl))
  try simp only [Act.put, List.setIfInBounds_toArray, List.set_cons_zero, List.set_cons_succ]
  refine wpAnyH_take (i := 7) (oi := { dst := some 47, op := Op.fieldAddr 77 (Operand.tmp 1) 0, type := 0, pos := "law.go:76", after := #[{ on := 2, ground := Ground.guard }], guard := some (2, false) }) (v := ?v7) rfl (by kernel_rfl) (by kernel_rfl) (by kernel_rfl) (fun _ _ _ h => h) (Or.inl ⟨by rfl, ?y7⟩) hHeld ?r7
  case y7 => (intro w hSw; (try dsimp only at hSw); go_simp; (try with_reducible rfl))
  try simp only [Act.put, List.setIfInBounds_toArray, List.set_cons_zero, List.set_cons_succ]
  refine wpAnyH_take (i := 8) (oi := { dst := some 48, op := Op.load 44 (Operand.tmp 47), type := 44, pos := "law.go:76", after := #[{ on := 7, ground := Ground.data }, { on := 2, ground := Ground.guard }], guard := some (2, false) }) (v := ?v8) rfl (by kernel_rfl) (by kernel_rfl) (by kernel_rfl) (fun _ _ _ h => h) (Or.inl ⟨by rfl, ?y8⟩) hHeld ?r8
  case y8 => (intro w hSw; (try dsimp only at hSw); go_simp; (try with_reducible rfl))
  try simp only [Act.put, List.setIfInBounds_toArray, List.set_cons_zero, List.set_cons_succ]
  refine wpAnyH_ready (rs := [6]) (by kernel_rfl) (by simp) ?_
  refine AllReadyH.cons (o := { dst := some 46, op := Op.call { callee := Callee.value (Operand.func 40), args := #[], argTypes := #[] }, type := 47, pos := "law.go:76", after := #[{ on := 2, ground := Ground.chain }, { on := 2, ground := Ground.guard }], guard := some (2, false) }) rfl (fun K hK => ?_) AllReadyH.nil
  go_simp
  (with_reducible refine (CRO.out _).mono ?_)
  rintro e wx ⟨rfl, k⟩
  show K _ _
  obtain ⟨k, rb⟩ := k
  have r1 : wx.cell? ⟨W3.heap.size, 43, none⟩ = some (.string y) := (rb.cell 43).trans HK.out
  clear rb
  have lx := L3.out.later k (by first | exact Keeps.refl _ [] | exact (Keeps.refl _ []).drew)
  clear k c0 c1 c2 c3 c4 c5 L3
  obtain ⟨c0, c1, c2, c3, c4, c5⟩ := lx.cells
  have L3 := kept lx
  clear lx
  clear hHeld
  refine hK.out _ _ ?hS6 (fun hHeld => ?_)
  case hS6 => exact ⟨c0, c2⟩
  clear hK K
  try simp only [Act.put, List.setIfInBounds_toArray, List.set_cons_zero, List.set_cons_succ]
  refine wpAnyH_take (i := 9) (oi := { dst := some 49, op := Op.indexAddr 47 (Operand.tmp 46) (Operand.tmp 48), type := 0, pos := "law.go:76", after := #[{ on := 6, ground := Ground.data }, { on := 8, ground := Ground.data }, { on := 2, ground := Ground.guard }], guard := some (2, false) }) (v := ?v9) rfl (by kernel_rfl) (by kernel_rfl) (by kernel_rfl) (fun _ _ _ h => h) (Or.inl ⟨by rfl, ?y9⟩) hHeld ?r9
  case y9 => (intro w hSw; (try dsimp only at hSw); go_simp; (try with_reducible rfl))
  try simp only [Act.put, List.setIfInBounds_toArray, List.set_cons_zero, List.set_cons_succ]
  refine wpAnyH_take (i := 10) (oi := { dst := some 50, op := Op.fieldAddr 50 (Operand.tmp 49) 1, type := 0, pos := "law.go:76", after := #[{ on := 9, ground := Ground.data }, { on := 2, ground := Ground.guard }], guard := some (2, false) }) (v := ?v10) rfl (by kernel_rfl) (by kernel_rfl) (by kernel_rfl) (fun _ _ _ h => h) (Or.inl ⟨by rfl, ?y10⟩) hHeld ?r10
  case y10 => (intro w hSw; (try dsimp only at hSw); go_simp; (try with_reducible rfl))
  try simp only [Act.put, List.setIfInBounds_toArray, List.set_cons_zero, List.set_cons_succ]
  refine wpAnyH_ready (rs := [11]) (by kernel_rfl) (by simp) ?_
  refine AllReadyH.cons (o := { dst := some 51, op := Op.load 9 (Operand.tmp 50), type := 9, pos := "law.go:76", after := #[{ on := 10, ground := Ground.data }, { on := 2, ground := Ground.guard }], guard := some (2, false) }) rfl (fun K hK => ?_) AllReadyH.nil
  go_simp
  clear hHeld
  refine hK.out _ _ ?hS11 (fun hHeld => ?_)
  case hS11 => exact ⟨c0, c2⟩
  clear hK K
  try simp only [Act.put, List.setIfInBounds_toArray, List.set_cons_zero, List.set_cons_succ]
  refine wpAnyH_take (i := 12) (oi := { dst := some 52, op := Op.call { callee := Callee.builtin Builtin.len, args := #[Operand.tmp 51], argTypes := #[9] }, type := 3, pos := "law.go:76", after := #[{ on := 11, ground := Ground.data }, { on := 2, ground := Ground.guard }], guard := some (2, false) }) (v := ?v12) rfl (by kernel_rfl) (by kernel_rfl) (by kernel_rfl) (fun _ _ _ h => h) (Or.inl ⟨by rfl, ?y12⟩) hHeld ?r12
  case y12 => (intro w hSw; (try dsimp only at hSw); go_simp; (try with_reducible rfl))
  try simp only [Act.put, List.setIfInBounds_toArray, List.set_cons_zero, List.set_cons_succ]
  refine wpAnyH_take (i := 13) (oi := { dst := some 53, op := Op.binOp BinOp.lss 3 (Operand.tmp 45) (Operand.tmp 52) 3, type := 4, pos := "law.go:76", after := #[{ on := 5, ground := Ground.data }, { on := 12, ground := Ground.data }, { on := 2, ground := Ground.guard }], guard := some (2, false) }) (v := ?v13) rfl (by kernel_rfl) (by kernel_rfl) (by kernel_rfl) (fun _ _ _ h => h) (Or.inl ⟨by rfl, ?y13⟩) hHeld ?r13
  case y13 => (intro w hSw; (try dsimp only at hSw); go_simp; (try with_reducible rfl))
  try simp only [Act.put, List.setIfInBounds_toArray, List.set_cons_zero, List.set_cons_succ]
  refine wpAnyH_take (i := 14) (oi := { dst := some 54, op := Op.pick (Operand.tmp 42) (Operand.const (Value.bool true)) (Operand.tmp 53), type := 4, pos := "law.go:76", after := #[{ on := 2, ground := Ground.data }, { on := 13, ground := Ground.data }], guard := none }) (v := ?v14) rfl (by kernel_rfl) (by kernel_rfl) (by kernel_rfl) (fun _ _ _ h => h) (Or.inl ⟨by rfl, ?y14⟩) hHeld ?r14
  case y14 => (intro w hSw; (try dsimp only at hSw); go_simp; (try with_reducible rfl))
  try simp only [Act.put, List.setIfInBounds_toArray, List.set_cons_zero, List.set_cons_succ]
  refine wpAnyH_done (by kernel_rfl) ?_ _
  go_wp2
  have l5 := L3.out.lay true
  obtain ⟨d0, d1, d2, d3, d4, d5⟩ := l5.cells
  exact bodyPost_ret (v := .bool true) (by simp [results, Try.results14, go_sem, d4]) rfl ⟨rfl, l5.keeps.below (Nat.le_refl _) (by simp)⟩

set_option maxRecDepth 100000 in
set_option maxHeartbeats 16000000 in
theorem need_short15 (dst num : Int) (sa : Option Addr) (len cap : Nat) (h : len < 1) (w : World) :
    Calls Try.prog 14 #[.agg #[.int .i64 15, .int .i64 dst, .slice sa len cap, .int .i64 num]] w fun e w' => e = .returned (.bool true) ∧ Below w.heap.size w w' := by
  have hd : decide (10 < (len : Int)) = false := by simp; omega
  have hd2 : decide ((len : Int) < 1) = true := by simp; omega
  have CRO := kept rows_k
  have CN := kept (fun w => needs_short15 dst num sa len cap h w)
  obtain ⟨y, hy⟩ : ∃ y, ktakes 15 = y := ⟨_, rfl⟩
  have hys : y.size = 1 := by rw [← hy]; rfl
  have HK : Hid (kcells[46]? = some (.string y)) := by rw [← hy]; exact (kcell 15 (by decide)).2.1
  clear hy
  have L0 : Hid (LB w ((w.alloc (.cells #[.int .i64 15, .int .i64 dst, .slice sa len cap, .int .i64 num] 77)).alloc (.cells #[.bool false] 4)) 15 dst num (.slice sa len cap) false) := LB.start
  go_enter Try.func14, Try.ntmps14
  go_wp2_with fail
  generalize (w.alloc (.cells #[.int .i64 15, .int .i64 dst, .slice sa len cap, .int .i64 num] 77)).alloc (.cells #[.bool false] 4) = W0 at *
  refine (opslives _).mono ?_
  rintro e W1 ⟨rfl, k⟩
  have l1 := L0.out.next k
  clear k L0
  have L1 := kept l1
  clear l1
  obtain ⟨c0, c1, c2, c3, c4, c5⟩ := L1.out.cells

  go_wp2_with fail
  refine (CN.out _).mono ?_
  rintro e W2 ⟨rfl, k⟩
  have l2 := L1.out.next k
  clear k L1 c0 c1 c2 c3 c4 c5
  have L2 := kept l2
  clear l2
  obtain ⟨c0, c1, c2, c3, c4, c5⟩ := L2.out.cells

  have MB := kept (World.alloc_heap_new W2 (.map #[] 0))
  have l3 := L2.out.next ((Keeps.refl W2 []).alloc (.map #[] 0))
  have HG := kept L2.out.ge
  clear L2 c0 c1 c2 c3 c4 c5
  have L3 := kept l3
  clear l3
  have hmm := @run_makeMap Try.prog
  generalize hgm : W2.heap.size = gm at *
  go_upto_region 5 with (refine wpList_put _ rfl _ _ _ rfl gm _ _ _ _ rfl rfl rfl MB.out (by rfl) ?_; intro W3 mb km; replace L3 := kept (L3.out.nextB km HG.out); replace MB := kept mb; clear mb km)
  have hl := run_look _ _ _ _ MB.out 15 (some (5, .int .i64 24)) (by rfl)
  obtain ⟨c0, c1, c2, c3, c4, c5⟩ := L3.out.cells
  go_wp2_with fail
  clear hl MB hmm
  refine wp_region_held_drew (S := (fun w' => w'.cell? ⟨w.heap.size, 0, none⟩ = some (.int .i64 15) ∧ w'.cell? ⟨w.heap.size, 2, none⟩ = some (.slice sa len cap))) (by kernel_rfl) ?hSs (fun hHeld => ?_)
  case hSs => exact ⟨c0, c2⟩
  refine wpAnyH_take (i := 0) (oi := { dst := some 40, op := Op.move (Operand.tmp 8), type := 4, pos := "law.go:76", after := #[], guard := none }) (v := ?v0) rfl (by kernel_rfl) (by kernel_rfl) (by kernel_rfl) (fun _ _ _ h => h) (Or.inl ⟨by rfl, ?y0⟩) hHeld ?r0
  case y0 => (intro w hSw; (try dsimp only at hSw); go_simp; (try with_reducible rfl))
  try simp only [Act.put, List.setIfInBounds_toArray, List.set_cons_zero, List.set_cons_succ]
  refine wpAnyH_take (i := 1) (oi := { dst := some 41, op := Op.unOp UnOp.not 4 (Operand.tmp 40), type := 4, pos := "law.go:76", after := #[{ on := 0, ground := Ground.data }], guard := none }) (v := ?v1) rfl (by kernel_rfl) (by kernel_rfl) (by kernel_rfl) (fun _ _ _ h => h) (Or.inl ⟨by rfl, ?y1⟩) hHeld ?r1
  case y1 => (intro w hSw; (try dsimp only at hSw); go_simp; (try with_reducible rfl))
  try simp only [Act.put, List.setIfInBounds_toArray, List.set_cons_zero, List.set_cons_succ]
  refine wpAnyH_take (i := 2) (oi := { dst := some 42, op := Op.move (Operand.tmp 41), type := 4, pos := "law.go:76", after := #[{ on := 1, ground := Ground.data }], guard := none }) (v := ?v2) rfl (by kernel_rfl) (by kernel_rfl) (by kernel_rfl) (fun _ _ _ h => h) (Or.inl ⟨by rfl, ?y2⟩) hHeld ?r2
  case y2 => (intro w hSw; (try dsimp only at hSw); go_simp; (try with_reducible rfl))
  try simp only [Act.put, List.setIfInBounds_toArray, List.set_cons_zero, List.set_cons_succ]
  refine wpAnyH_take (i := 3) (oi := { dst := some 43, op := Op.fieldAddr 77 (Operand.tmp 1) 2, type := 0, pos := "law.go:76", after := #[{ on := 2, ground := Ground.guard }], guard := some (2, false) }) (v := ?v3) rfl (by kernel_rfl) (by kernel_rfl) (by kernel_rfl) (fun _ _ _ h => h) (Or.inl ⟨by rfl, ?y3⟩) hHeld ?r3
  case y3 => (intro w hSw; (try dsimp only at hSw); go_simp; (try with_reducible rfl))
  try simp only [Act.put, List.setIfInBounds_toArray, List.set_cons_zero, List.set_cons_succ]
  refine wpAnyH_take (i := 4) (oi := { dst := some 44, op := Op.load 58 (Operand.tmp 43), type := 58, pos := "law.go:76", after := #[{ on := 3, ground := Ground.data }, { on := 2, ground := Ground.guard }], guard := some (2, false) }) (v := ?v4) rfl (by kernel_rfl) (by kernel_rfl) (by kernel_rfl) (fun _ _ _ h => h) (Or.inl ⟨by rfl, ?y4⟩) hHeld ?r4
  case y4 => (intro w hSw; (try dsimp only at hSw); go_simp; (try with_reducible rfl))
  try simp only [Act.put, List.setIfInBounds_toArray, List.set_cons_zero, List.set_cons_succ]
  refine wpAnyH_take (i := 5) (oi := { dst := some 45, op := Op.call { callee := Callee.builtin Builtin.len, args := #[Operand.tmp 44], argTypes := #[58] }, type := 3, pos := "law.go:76", after := #[{ on := 4, ground := Ground.data }, { on := 2, ground := Ground.guard }], guard := some (2, false) }) (v := ?v5) rfl (by kernel_rfl) (by kernel_rfl) (by kernel_rfl) (fun _ _ _ h => h) (Or.inl ⟨by rfl, ?y5⟩) hHeld ?r5
  case y5 => (intro w hSw; (try dsimp only at hSw); go_simp; (try with_reducible rfl))
  try simp only [Act.put, List.setIfInBounds_toArray, List.set_cons_zero, List.set_cons_succ]
  refine wpAnyH_take (i := 7) (oi := { dst := some 47, op := Op.fieldAddr 77 (Operand.tmp 1) 0, type := 0, pos := "law.go:76", after := #[{ on := 2, ground := Ground.guard }], guard := some (2, false) }) (v := ?v7) rfl (by kernel_rfl) (by kernel_rfl) (by kernel_rfl) (fun _ _ _ h => h) (Or.inl ⟨by rfl, ?y7⟩) hHeld ?r7
  case y7 => (intro w hSw; (try dsimp only at hSw); go_simp; (try with_reducible rfl))
  try simp only [Act.put, List.setIfInBounds_toArray, List.set_cons_zero, List.set_cons_succ]
  refine wpAnyH_take (i := 8) (oi := { dst := some 48, op := Op.load 44 (Operand.tmp 47), type := 44, pos := "law.go:76", after := #[{ on := 7, ground := Ground.data }, { on := 2, ground := Ground.guard }], guard := some (2, false) }) (v := ?v8) rfl (by kernel_rfl) (by kernel_rfl) (by kernel_rfl) (fun _ _ _ h => h) (Or.inl ⟨by rfl, ?y8⟩) hHeld ?r8
  case y8 => (intro w hSw; (try dsimp only at hSw); go_simp; (try with_reducible rfl))
  try simp only [Act.put, List.setIfInBounds_toArray, List.set_cons_zero, List.set_cons_succ]
  refine wpAnyH_ready (rs := [6]) (by kernel_rfl) (by simp) ?_
  refine AllReadyH.cons (o := { dst := some 46, op := Op.call { callee := Callee.value (Operand.func 40), args := #[], argTypes := #[] }, type := 47, pos := "law.go:76", after := #[{ on := 2, ground := Ground.chain }, { on := 2, ground := Ground.guard }], guard := some (2, false) }) rfl (fun K hK => ?_) AllReadyH.nil
  go_simp
  (with_reducible refine (CRO.out _).mono ?_)
  rintro e wx ⟨rfl, k⟩
  show K _ _
  obtain ⟨k, rb⟩ := k
  have r1 : wx.cell? ⟨W3.heap.size, 46, none⟩ = some (.string y) := (rb.cell 46).trans HK.out
  clear rb
  have lx := L3.out.later k (by first | exact Keeps.refl _ [] | exact (Keeps.refl _ []).drew)
  clear k c0 c1 c2 c3 c4 c5 L3
  obtain ⟨c0, c1, c2, c3, c4, c5⟩ := lx.cells
  have L3 := kept lx
  clear lx
  clear hHeld
  refine hK.out _ _ ?hS6 (fun hHeld => ?_)
  case hS6 => exact ⟨c0, c2⟩
  clear hK K
  try simp only [Act.put, List.setIfInBounds_toArray, List.set_cons_zero, List.set_cons_succ]
  refine wpAnyH_take (i := 9) (oi := { dst := some 49, op := Op.indexAddr 47 (Operand.tmp 46) (Operand.tmp 48), type := 0, pos := "law.go:76", after := #[{ on := 6, ground := Ground.data }, { on := 8, ground := Ground.data }, { on := 2, ground := Ground.guard }], guard := some (2, false) }) (v := ?v9) rfl (by kernel_rfl) (by kernel_rfl) (by kernel_rfl) (fun _ _ _ h => h) (Or.inl ⟨by rfl, ?y9⟩) hHeld ?r9
  case y9 => (intro w hSw; (try dsimp only at hSw); go_simp; (try with_reducible rfl))
  try simp only [Act.put, List.setIfInBounds_toArray, List.set_cons_zero, List.set_cons_succ]
  refine wpAnyH_take (i := 10) (oi := { dst := some 50, op := Op.fieldAddr 50 (Operand.tmp 49) 1, type := 0, pos := "law.go:76", after := #[{ on := 9, ground := Ground.data }, { on := 2, ground := Ground.guard }], guard := some (2, false) }) (v := ?v10) rfl (by kernel_rfl) (by kernel_rfl) (by kernel_rfl) (fun _ _ _ h => h) (Or.inl ⟨by rfl, ?y10⟩) hHeld ?r10
  case y10 => (intro w hSw; (try dsimp only at hSw); go_simp; (try with_reducible rfl))
  try simp only [Act.put, List.setIfInBounds_toArray, List.set_cons_zero, List.set_cons_succ]
  refine wpAnyH_ready (rs := [11]) (by kernel_rfl) (by simp) ?_
  refine AllReadyH.cons (o := { dst := some 51, op := Op.load 9 (Operand.tmp 50), type := 9, pos := "law.go:76", after := #[{ on := 10, ground := Ground.data }, { on := 2, ground := Ground.guard }], guard := some (2, false) }) rfl (fun K hK => ?_) AllReadyH.nil
  go_simp
  clear hHeld
  refine hK.out _ _ ?hS11 (fun hHeld => ?_)
  case hS11 => exact ⟨c0, c2⟩
  clear hK K
  try simp only [Act.put, List.setIfInBounds_toArray, List.set_cons_zero, List.set_cons_succ]
  refine wpAnyH_take (i := 12) (oi := { dst := some 52, op := Op.call { callee := Callee.builtin Builtin.len, args := #[Operand.tmp 51], argTypes := #[9] }, type := 3, pos := "law.go:76", after := #[{ on := 11, ground := Ground.data }, { on := 2, ground := Ground.guard }], guard := some (2, false) }) (v := ?v12) rfl (by kernel_rfl) (by kernel_rfl) (by kernel_rfl) (fun _ _ _ h => h) (Or.inl ⟨by rfl, ?y12⟩) hHeld ?r12
  case y12 => (intro w hSw; (try dsimp only at hSw); go_simp; (try with_reducible rfl))
  try simp only [Act.put, List.setIfInBounds_toArray, List.set_cons_zero, List.set_cons_succ]
  refine wpAnyH_take (i := 13) (oi := { dst := some 53, op := Op.binOp BinOp.lss 3 (Operand.tmp 45) (Operand.tmp 52) 3, type := 4, pos := "law.go:76", after := #[{ on := 5, ground := Ground.data }, { on := 12, ground := Ground.data }, { on := 2, ground := Ground.guard }], guard := some (2, false) }) (v := ?v13) rfl (by kernel_rfl) (by kernel_rfl) (by kernel_rfl) (fun _ _ _ h => h) (Or.inl ⟨by rfl, ?y13⟩) hHeld ?r13
  case y13 => (intro w hSw; (try dsimp only at hSw); go_simp; (try with_reducible rfl))
  try simp only [Act.put, List.setIfInBounds_toArray, List.set_cons_zero, List.set_cons_succ]
  refine wpAnyH_take (i := 14) (oi := { dst := some 54, op := Op.pick (Operand.tmp 42) (Operand.const (Value.bool true)) (Operand.tmp 53), type := 4, pos := "law.go:76", after := #[{ on := 2, ground := Ground.data }, { on := 13, ground := Ground.data }], guard := none }) (v := ?v14) rfl (by kernel_rfl) (by kernel_rfl) (by kernel_rfl) (fun _ _ _ h => h) (Or.inl ⟨by rfl, ?y14⟩) hHeld ?r14
  case y14 => (intro w hSw; (try dsimp only at hSw); go_simp; (try with_reducible rfl))
  try simp only [Act.put, List.setIfInBounds_toArray, List.set_cons_zero, List.set_cons_succ]
  refine wpAnyH_done (by kernel_rfl) ?_ _
  go_wp2
  have l5 := L3.out.lay true
  obtain ⟨d0, d1, d2, d3, d4, d5⟩ := l5.cells
  exact bodyPost_ret (v := .bool true) (by simp [results, Try.results14, go_sem, d4]) rfl ⟨rfl, l5.keeps.below (Nat.le_refl _) (by simp)⟩
end Go.Proofs.Ytppidnjhdefbiaa
