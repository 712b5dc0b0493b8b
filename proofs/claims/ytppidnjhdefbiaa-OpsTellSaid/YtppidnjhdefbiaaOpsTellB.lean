/- Package ops: the law OpsTell, the operations: no result. -/
import Derived.Test.YtppidnjhdefbiaaOpsTellA
import Derived.Deep.RegionHeld3
import Derived.Deep.Cut
import Derived.Deep.CutRange
namespace Go.Proofs.Ytppidnjhdefbiaa
open Go.RowKit
set_option linter.unusedVariables false
set_option linter.unusedSimpArgs false

set_option maxRecDepth 100000 in
set_option maxHeartbeats 8000000 in
theorem tell_b (k : Nat) (hk : k < 27) (hk0 : k ≠ 0) (x y : ByteArray) (hx : kword k = x) (hy : ktakes k = y) (hz : kmakes k = ⟨#[]⟩) (hys : y.size ≤ 100) (hya : ∀ j (hj : j < y.size), (y[j]'hj).toNat < 128) (w : World) :
    Calls Try.prog 12 #[.int .i64 k] w fun e w' => e = .returned (.bool true) ∧ Below w.heap.size w w' := by
  have hof := of_yes k hk
  rw [hx, hy, hz] at hof
  have CT := kept (takes_any k x ⟨#[]⟩ y hys hya hof)
  have CM := kept (makes_none k x y hof)
  have CW := kept (word_yes k hk)
  rw [hx] at CW
  obtain ⟨e0, e1, e2⟩ := kcell k hk
  rw [hx] at e0
  rw [hy] at e1
  rw [hz] at e2
  have E0 := kept e0
  have E1 := kept e1
  have E2 := kept e2
  clear e0 e1 e2 hof hz
  obtain ⟨T, hT⟩ : ∃ T, (if chkB k = true then (k : Int) - 17 else 0) = T := ⟨_, rfl⟩
  obtain ⟨R, hR⟩ : ∃ T, rawB k = T := ⟨_, rfl⟩
  obtain ⟨P, hP⟩ : ∃ T, pureB k = T := ⟨_, rfl⟩
  obtain ⟨C, hC⟩ : ∃ T, chkB k = T := ⟨_, rfl⟩
  have f18 := cls18 k hk
  have f19 := cls19 k hk
  have f21 := cls21 k hk
  have fc := chk_pos k C hC
  have CK := kept (fun w => refcheck_any k w (by unfold inI; simp; omega))
  have CX := kept (fun w => trap_any k w (by unfold inI; simp; omega))
  have CO := kept (of_word k hk)
  have CC := kept (check_any k)
  have CR := kept (raw_any k)
  have CP := kept (pure_yes k hk)
  have CA := kept (any_any k)
  have CN := kept (numbered_any k)
  simp only [hT] at CK CX fc
  simp only [hR] at f18 CR
  simp only [hP] at f19 CP
  simp only [hC] at f19 CC
  simp only [hx] at f18 f19 f21 CO
  simp only [← to_data] at f18 f19 f21
  have F18 := kept f18
  have F19 := kept f19
  have F21 := kept f21
  have FC := kept fc
  clear f18 f19 f21 fc hT hR hP hC hx
  have HY := kept hy
  have HYA := kept hya
  clear hy hya
  go_enter Try.func12, Try.ntmps12
  go_wp2_with fail
  refine (opslives _).mono ?_
  rintro e w1 ⟨rfl, k1⟩
  go_wp2_with fail
  refine (rows_any _).mono ?_
  rintro e w2 ⟨rfl, hw2⟩
  have K2 := kept (show Keeps w w2 [] by rw [hw2]; exact Keeps.alloc k1 _)
  have B2 := kept (show Blk w2 w1.heap.size 50 kcells by rw [hw2]; exact Blk.new _ _ _)
  clear hw2 k1
  generalize w1.heap.size = g0 at *
  go_wp2_with fail
  refine (CT.out _).mono ?_
  rintro e w3 ⟨v, rfl, ho, k3⟩
  obtain ⟨va, vc, rfl, hvc⟩ := own_form ho
  have K3 := kept (K2.out.trans k3)
  have B3 := kept (B2.out.keep k3 (by simp))
  have O3 := kept (own_low ho (Nat.zero_le _))
  clear K2 B2 k3 ho
  simp only [List.append_nil] at K3
  go_wp2_with fail
  refine (CM.out _).mono ?_
  rintro e w4 ⟨rfl, k4⟩
  have K4 := kept (K3.out.trans k4)
  have B4 := kept (B3.out.keep k4 (by simp))
  have O4 := kept (own_keep O3.out k4 (by simp))
  clear K3 k4 O3 B3
  have c0 := B4.out.cell (k * 3)
  have c1 := B4.out.cell (k * 3 + 1)
  have c2 := B4.out.cell (k * 3 + 2)
  rw [E0.out] at c0
  rw [E1.out] at c1
  rw [E2.out] at c2
  go_wp2_with fail
  clear c0 c1 c2 E0 E1 E2 CT CM
  have T7 : Hid (TB w (w4.alloc (.cells #[.string x, .string y, .string ⟨#[]⟩] 50)) w4.heap.size x y ⟨#[]⟩ va vc) :=
    ⟨K4.out.alloc _, Blk.new _ _ _, own_keep O4.out ((Keeps.refl _ []).alloc _) (by simp)⟩
  clear K4 O4 B4
  generalize w4.alloc (.cells #[.string x, .string y, .string ⟨#[]⟩] 50) = W7 at *
  generalize w4.heap.size = g7 at *
  obtain ⟨c0, c1, c2⟩ := T7.out.cells
  refine wp_region_held_drew (S := (fun w' => w'.cell? ⟨g7, 0, none⟩ = some (.string x) ∧ w'.cell? ⟨g7, 1, none⟩ = some (.string y) ∧ w'.cell? ⟨g7, 2, none⟩ = some (.string ⟨#[]⟩))) (by kernel_rfl) ?hSs (fun hHeld => ?_)
  case hSs => exact ⟨c0, c1, c2⟩
  refine wpAnyH_take (i := 0) (oi := { dst := some 82, op := Op.move (Operand.tmp 0), type := 44, pos := "law.go:25", after := #[], guard := none }) (v := ?v0) rfl (by kernel_rfl) (by kernel_rfl) (by kernel_rfl) (fun _ _ _ h => h) (Or.inl ⟨by rfl, ?y0⟩) hHeld ?r0
  case y0 => (intro w hSw; (try dsimp only at hSw); go_simp; (try with_reducible rfl))
  try simp only [Act.put, List.setIfInBounds_toArray, List.set_cons_zero, List.set_cons_succ]
  refine wpAnyH_take (i := 2) (oi := { dst := some 84, op := Op.fieldAddr 50 (Operand.tmp 7) 0, type := 0, pos := "law.go:25", after := #[], guard := none }) (v := ?v2) rfl (by kernel_rfl) (by kernel_rfl) (by kernel_rfl) (fun _ _ _ h => h) (Or.inl ⟨by rfl, ?y2⟩) hHeld ?r2
  case y2 => (intro w hSw; (try dsimp only at hSw); go_simp; (try with_reducible rfl))
  try simp only [Act.put, List.setIfInBounds_toArray, List.set_cons_zero, List.set_cons_succ]
  refine wpAnyH_take (i := 3) (oi := { dst := some 85, op := Op.load 9 (Operand.tmp 84), type := 9, pos := "law.go:25", after := #[{ on := 2, ground := Ground.data }], guard := none }) (v := ?v3) rfl (by kernel_rfl) (by kernel_rfl) (by kernel_rfl) (fun _ _ _ h => h) (Or.inl ⟨by rfl, ?y3⟩) hHeld ?r3
  case y3 => (intro w hSw; (try dsimp only at hSw); go_simp; (try with_reducible rfl))
  try simp only [Act.put, List.setIfInBounds_toArray, List.set_cons_zero, List.set_cons_succ]
  refine wpAnyH_ready (rs := [1]) (by kernel_rfl) (by simp) ?_
  refine AllReadyH.cons (o := { dst := some 83, op := Op.call { callee := Callee.value (Operand.func 47), args := #[Operand.tmp 82], argTypes := #[44] }, type := 9, pos := "law.go:25", after := #[{ on := 0, ground := Ground.data }], guard := none }) rfl (fun K hK => ?_) AllReadyH.nil
  go_simp
  (with_reducible refine (CW.out _).mono ?_)
  rintro e wx ⟨rfl, k⟩
  show K _ _
  have tx := T7.out.later k (by first | exact Keeps.refl _ [] | exact (Keeps.refl _ []).drew)
  clear k c0 c1 c2 T7
  obtain ⟨c0, c1, c2⟩ := tx.cells
  have T7 := kept tx
  clear tx
  clear hHeld
  refine hK.out _ _ ?hS1 (fun hHeld => ?_)
  case hS1 => exact ⟨c0, c1, c2⟩
  clear hK K
  try simp only [Act.put, List.setIfInBounds_toArray, List.set_cons_zero, List.set_cons_succ]
  refine wpAnyH_take (i := 4) (oi := { dst := some 86, op := Op.binOp BinOp.neq 9 (Operand.tmp 83) (Operand.tmp 85) 9, type := 4, pos := "law.go:25", after := #[{ on := 1, ground := Ground.data }, { on := 3, ground := Ground.data }], guard := none }) (v := ?v4) rfl (by kernel_rfl) (by kernel_rfl) (by kernel_rfl) (fun _ _ _ h => h) (Or.inl ⟨by rfl, ?y4⟩) hHeld ?r4
  case y4 => (intro w hSw; (try dsimp only at hSw); go_simp; (try with_reducible rfl))
  try simp only [Act.put, List.setIfInBounds_toArray, List.set_cons_zero, List.set_cons_succ]
  refine wpAnyH_take (i := 5) (oi := { dst := some 87, op := Op.move (Operand.tmp 86), type := 4, pos := "law.go:25", after := #[{ on := 4, ground := Ground.data }, { on := 1, ground := Ground.chain }], guard := none }) (v := ?v5) rfl (by kernel_rfl) (by kernel_rfl) (by kernel_rfl) (fun _ _ _ h => h) (Or.inl ⟨by rfl, ?y5⟩) hHeld ?r5
  case y5 => (intro w hSw; (try dsimp only at hSw); go_simp; (try with_reducible rfl))
  try simp only [Act.put, List.setIfInBounds_toArray, List.set_cons_zero, List.set_cons_succ]
  refine wpAnyH_take (i := 6) (oi := { dst := some 88, op := Op.move (Operand.tmp 4), type := 63, pos := "law.go:25", after := #[{ on := 5, ground := Ground.guard }], guard := some (5, false) }) (v := ?v6) rfl (by kernel_rfl) (by kernel_rfl) (by kernel_rfl) (fun _ _ _ h => h) (Or.inl ⟨by rfl, ?y6⟩) hHeld ?r6
  case y6 => (intro w hSw; (try dsimp only at hSw); go_simp; (try with_reducible rfl))
  try simp only [Act.put, List.setIfInBounds_toArray, List.set_cons_zero, List.set_cons_succ]
  refine wpAnyH_take (i := 7) (oi := { dst := some 89, op := Op.call { callee := Callee.builtin Builtin.len, args := #[Operand.tmp 88], argTypes := #[63] }, type := 3, pos := "law.go:25", after := #[{ on := 6, ground := Ground.data }, { on := 5, ground := Ground.guard }], guard := some (5, false) }) (v := ?v7) rfl (by kernel_rfl) (by kernel_rfl) (by kernel_rfl) (fun _ _ _ h => h) (Or.inl ⟨by rfl, ?y7⟩) hHeld ?r7
  case y7 => (intro w hSw; (try dsimp only at hSw); go_simp; (try with_reducible rfl))
  try simp only [Act.put, List.setIfInBounds_toArray, List.set_cons_zero, List.set_cons_succ]
  refine wpAnyH_take (i := 8) (oi := { dst := some 90, op := Op.fieldAddr 50 (Operand.tmp 7) 1, type := 0, pos := "law.go:25", after := #[{ on := 5, ground := Ground.guard }], guard := some (5, false) }) (v := ?v8) rfl (by kernel_rfl) (by kernel_rfl) (by kernel_rfl) (fun _ _ _ h => h) (Or.inl ⟨by rfl, ?y8⟩) hHeld ?r8
  case y8 => (intro w hSw; (try dsimp only at hSw); go_simp; (try with_reducible rfl))
  try simp only [Act.put, List.setIfInBounds_toArray, List.set_cons_zero, List.set_cons_succ]
  refine wpAnyH_take (i := 9) (oi := { dst := some 91, op := Op.load 9 (Operand.tmp 90), type := 9, pos := "law.go:25", after := #[{ on := 8, ground := Ground.data }, { on := 5, ground := Ground.guard }], guard := some (5, false) }) (v := ?v9) rfl (by kernel_rfl) (by kernel_rfl) (by kernel_rfl) (fun _ _ _ h => h) (Or.inl ⟨by rfl, ?y9⟩) hHeld ?r9
  case y9 => (intro w hSw; (try dsimp only at hSw); go_simp; (try with_reducible rfl))
  try simp only [Act.put, List.setIfInBounds_toArray, List.set_cons_zero, List.set_cons_succ]
  refine wpAnyH_take (i := 10) (oi := { dst := some 92, op := Op.call { callee := Callee.builtin Builtin.len, args := #[Operand.tmp 91], argTypes := #[9] }, type := 3, pos := "law.go:25", after := #[{ on := 9, ground := Ground.data }, { on := 5, ground := Ground.guard }], guard := some (5, false) }) (v := ?v10) rfl (by kernel_rfl) (by kernel_rfl) (by kernel_rfl) (fun _ _ _ h => h) (Or.inl ⟨by rfl, ?y10⟩) hHeld ?r10
  case y10 => (intro w hSw; (try dsimp only at hSw); go_simp; (try with_reducible rfl))
  try simp only [Act.put, List.setIfInBounds_toArray, List.set_cons_zero, List.set_cons_succ]
  refine wpAnyH_take (i := 11) (oi := { dst := some 93, op := Op.binOp BinOp.neq 3 (Operand.tmp 89) (Operand.tmp 92) 3, type := 4, pos := "law.go:25", after := #[{ on := 7, ground := Ground.data }, { on := 10, ground := Ground.data }, { on := 5, ground := Ground.guard }], guard := some (5, false) }) (v := ?v11) rfl (by kernel_rfl) (by kernel_rfl) (by kernel_rfl) (fun _ _ _ h => h) (Or.inl ⟨by rfl, ?y11⟩) hHeld ?r11
  case y11 => (intro w hSw; (try dsimp only at hSw); go_simp; (try with_reducible rfl))
  try simp only [Act.put, List.setIfInBounds_toArray, List.set_cons_zero, List.set_cons_succ]
  refine wpAnyH_take (i := 12) (oi := { dst := some 94, op := Op.pick (Operand.tmp 87) (Operand.const (Value.bool true)) (Operand.tmp 93), type := 4, pos := "law.go:25", after := #[{ on := 5, ground := Ground.data }, { on := 11, ground := Ground.data }], guard := none }) (v := ?v12) rfl (by kernel_rfl) (by kernel_rfl) (by kernel_rfl) (fun _ _ _ h => h) (Or.inl ⟨by rfl, ?y12⟩) hHeld ?r12
  case y12 => (intro w hSw; (try dsimp only at hSw); go_simp; (try with_reducible rfl))
  try simp only [Act.put, List.setIfInBounds_toArray, List.set_cons_zero, List.set_cons_succ]
  refine wpAnyH_take (i := 13) (oi := { dst := some 95, op := Op.move (Operand.tmp 94), type := 4, pos := "law.go:25", after := #[{ on := 12, ground := Ground.data }, { on := 5, ground := Ground.chain }], guard := none }) (v := ?v13) rfl (by kernel_rfl) (by kernel_rfl) (by kernel_rfl) (fun _ _ _ h => h) (Or.inl ⟨by rfl, ?y13⟩) hHeld ?r13
  case y13 => (intro w hSw; (try dsimp only at hSw); go_simp; (try with_reducible rfl))
  try simp only [Act.put, List.setIfInBounds_toArray, List.set_cons_zero, List.set_cons_succ]
  refine wpAnyH_take (i := 14) (oi := { dst := some 96, op := Op.move (Operand.tmp 6), type := 4, pos := "law.go:25", after := #[{ on := 13, ground := Ground.guard }], guard := some (13, false) }) (v := ?v14) rfl (by kernel_rfl) (by kernel_rfl) (by kernel_rfl) (fun _ _ _ h => h) (Or.inl ⟨by rfl, ?y14⟩) hHeld ?r14
  case y14 => (intro w hSw; (try dsimp only at hSw); go_simp; (try with_reducible rfl))
  try simp only [Act.put, List.setIfInBounds_toArray, List.set_cons_zero, List.set_cons_succ]
  refine wpAnyH_take (i := 15) (oi := { dst := some 97, op := Op.fieldAddr 50 (Operand.tmp 7) 2, type := 0, pos := "law.go:25", after := #[{ on := 13, ground := Ground.guard }], guard := some (13, false) }) (v := ?v15) rfl (by kernel_rfl) (by kernel_rfl) (by kernel_rfl) (fun _ _ _ h => h) (Or.inl ⟨by rfl, ?y15⟩) hHeld ?r15
  case y15 => (intro w hSw; (try dsimp only at hSw); go_simp; (try with_reducible rfl))
  try simp only [Act.put, List.setIfInBounds_toArray, List.set_cons_zero, List.set_cons_succ]
  refine wpAnyH_take (i := 16) (oi := { dst := some 98, op := Op.load 9 (Operand.tmp 97), type := 9, pos := "law.go:25", after := #[{ on := 15, ground := Ground.data }, { on := 13, ground := Ground.guard }], guard := some (13, false) }) (v := ?v16) rfl (by kernel_rfl) (by kernel_rfl) (by kernel_rfl) (fun _ _ _ h => h) (Or.inl ⟨by rfl, ?y16⟩) hHeld ?r16
  case y16 => (intro w hSw; (try dsimp only at hSw); go_simp; (try with_reducible rfl))
  try simp only [Act.put, List.setIfInBounds_toArray, List.set_cons_zero, List.set_cons_succ]
  refine wpAnyH_take (i := 17) (oi := { dst := some 99, op := Op.binOp BinOp.neq 9 (Operand.tmp 98) (Operand.const (Value.string { data := #[] })) 9, type := 4, pos := "law.go:25", after := #[{ on := 16, ground := Ground.data }, { on := 13, ground := Ground.guard }], guard := some (13, false) }) (v := ?v17) rfl (by kernel_rfl) (by kernel_rfl) (by kernel_rfl) (fun _ _ _ h => h) (Or.inl ⟨by rfl, ?y17⟩) hHeld ?r17
  case y17 => (intro w hSw; (try dsimp only at hSw); go_simp; (try with_reducible rfl))
  try simp only [Act.put, List.setIfInBounds_toArray, List.set_cons_zero, List.set_cons_succ]
  refine wpAnyH_take (i := 18) (oi := { dst := some 100, op := Op.binOp BinOp.neq 4 (Operand.tmp 96) (Operand.tmp 99) 4, type := 4, pos := "law.go:25", after := #[{ on := 14, ground := Ground.data }, { on := 17, ground := Ground.data }, { on := 13, ground := Ground.guard }], guard := some (13, false) }) (v := ?v18) rfl (by kernel_rfl) (by kernel_rfl) (by kernel_rfl) (fun _ _ _ h => h) (Or.inl ⟨by rfl, ?y18⟩) hHeld ?r18
  case y18 => (intro w hSw; (try dsimp only at hSw); go_simp; (try with_reducible rfl))
  try simp only [Act.put, List.setIfInBounds_toArray, List.set_cons_zero, List.set_cons_succ]
  refine wpAnyH_take (i := 19) (oi := { dst := some 101, op := Op.pick (Operand.tmp 95) (Operand.const (Value.bool true)) (Operand.tmp 100), type := 4, pos := "law.go:25", after := #[{ on := 13, ground := Ground.data }, { on := 18, ground := Ground.data }], guard := none }) (v := ?v19) rfl (by kernel_rfl) (by kernel_rfl) (by kernel_rfl) (fun _ _ _ h => h) (Or.inl ⟨by rfl, ?y19⟩) hHeld ?r19
  case y19 => (intro w hSw; (try dsimp only at hSw); go_simp; (try with_reducible rfl))
  try simp only [Act.put, List.setIfInBounds_toArray, List.set_cons_zero, List.set_cons_succ]
  refine wpAnyH_take (i := 20) (oi := { dst := some 102, op := Op.move (Operand.tmp 101), type := 4, pos := "law.go:25", after := #[{ on := 19, ground := Ground.data }, { on := 13, ground := Ground.chain }], guard := none }) (v := ?v20) rfl (by kernel_rfl) (by kernel_rfl) (by kernel_rfl) (fun _ _ _ h => h) (Or.inl ⟨by rfl, ?y20⟩) hHeld ?r20
  case y20 => (intro w hSw; (try dsimp only at hSw); go_simp; (try with_reducible rfl))
  try simp only [Act.put, List.setIfInBounds_toArray, List.set_cons_zero, List.set_cons_succ]
  refine wpAnyH_take (i := 21) (oi := { dst := some 103, op := Op.move (Operand.tmp 6), type := 4, pos := "law.go:25", after := #[{ on := 20, ground := Ground.guard }], guard := some (20, false) }) (v := ?v21) rfl (by kernel_rfl) (by kernel_rfl) (by kernel_rfl) (fun _ _ _ h => h) (Or.inl ⟨by rfl, ?y21⟩) hHeld ?r21
  case y21 => (intro w hSw; (try dsimp only at hSw); go_simp; (try with_reducible rfl))
  try simp only [Act.put, List.setIfInBounds_toArray, List.set_cons_zero, List.set_cons_succ]
  refine wpAnyH_take (i := 22) (oi := { dst := some 104, op := Op.move (Operand.tmp 103), type := 4, pos := "law.go:25", after := #[{ on := 21, ground := Ground.data }, { on := 20, ground := Ground.chain }, { on := 20, ground := Ground.guard }], guard := some (20, false) }) (v := ?v22) rfl (by kernel_rfl) (by kernel_rfl) (by kernel_rfl) (fun _ _ _ h => h) (Or.inl ⟨by rfl, ?y22⟩) hHeld ?r22
  case y22 => (intro w hSw; (try dsimp only at hSw); go_simp; (try with_reducible rfl))
  try simp only [Act.put, List.setIfInBounds_toArray, List.set_cons_zero, List.set_cons_succ]
  refine wpAnyH_take (i := 23) (oi := { dst := some 105, op := Op.move (Operand.tmp 5), type := 51, pos := "law.go:25", after := #[{ on := 22, ground := Ground.guard }], guard := some (22, true) }) (v := undef) rfl (by kernel_rfl) (by kernel_rfl) (by kernel_rfl) (fun _ _ _ h => h) (Or.inr ⟨by rfl, rfl⟩) hHeld ?_
  try simp only [Act.put, List.setIfInBounds_toArray, List.set_cons_zero, List.set_cons_succ]
  refine wpAnyH_take (i := 24) (oi := { dst := some 106, op := Op.fieldAddr 50 (Operand.tmp 7) 2, type := 0, pos := "law.go:25", after := #[{ on := 22, ground := Ground.guard }], guard := some (22, true) }) (v := undef) rfl (by kernel_rfl) (by kernel_rfl) (by kernel_rfl) (fun _ _ _ h => h) (Or.inr ⟨by rfl, rfl⟩) hHeld ?_
  try simp only [Act.put, List.setIfInBounds_toArray, List.set_cons_zero, List.set_cons_succ]
  refine wpAnyH_take (i := 25) (oi := { dst := some 107, op := Op.load 9 (Operand.tmp 106), type := 9, pos := "law.go:25", after := #[{ on := 24, ground := Ground.data }, { on := 22, ground := Ground.guard }], guard := some (22, true) }) (v := undef) rfl (by kernel_rfl) (by kernel_rfl) (by kernel_rfl) (fun _ _ _ h => h) (Or.inr ⟨by rfl, rfl⟩) hHeld ?_
  try simp only [Act.put, List.setIfInBounds_toArray, List.set_cons_zero, List.set_cons_succ]
  refine wpAnyH_take (i := 26) (oi := { dst := some 108, op := Op.index 9 (Operand.tmp 107) (Operand.const (Value.int IntKind.i64 0)), type := 5, pos := "law.go:25", after := #[{ on := 25, ground := Ground.data }, { on := 22, ground := Ground.guard }], guard := some (22, true) }) (v := undef) rfl (by kernel_rfl) (by kernel_rfl) (by kernel_rfl) (fun _ _ _ h => h) (Or.inr ⟨by rfl, rfl⟩) hHeld ?_
  try simp only [Act.put, List.setIfInBounds_toArray, List.set_cons_zero, List.set_cons_succ]
  refine wpAnyH_take (i := 27) (oi := { dst := some 109, op := Op.call { callee := Callee.value (Operand.func 54), args := #[Operand.tmp 108], argTypes := #[5] }, type := 3, pos := "law.go:25", after := #[{ on := 26, ground := Ground.data }, { on := 22, ground := Ground.chain }, { on := 22, ground := Ground.guard }], guard := some (22, true) }) (v := undef) rfl (by kernel_rfl) (by kernel_rfl) (by kernel_rfl) (fun _ _ _ h => h) (Or.inr ⟨by rfl, rfl⟩) hHeld ?_
  try simp only [Act.put, List.setIfInBounds_toArray, List.set_cons_zero, List.set_cons_succ]
  refine wpAnyH_take (i := 28) (oi := { dst := some 110, op := Op.binOp BinOp.neq 3 (Operand.tmp 105) (Operand.tmp 109) 3, type := 4, pos := "law.go:25", after := #[{ on := 23, ground := Ground.data }, { on := 27, ground := Ground.data }, { on := 22, ground := Ground.guard }], guard := some (22, true) }) (v := undef) rfl (by kernel_rfl) (by kernel_rfl) (by kernel_rfl) (fun _ _ _ h => h) (Or.inr ⟨by rfl, rfl⟩) hHeld ?_
  try simp only [Act.put, List.setIfInBounds_toArray, List.set_cons_zero, List.set_cons_succ]
  refine wpAnyH_take (i := 29) (oi := { dst := some 111, op := Op.pick (Operand.tmp 104) (Operand.tmp 110) (Operand.const (Value.bool false)), type := 4, pos := "law.go:25", after := #[{ on := 22, ground := Ground.data }, { on := 28, ground := Ground.data }, { on := 20, ground := Ground.guard }], guard := some (20, false) }) (v := ?v29) rfl (by kernel_rfl) (by kernel_rfl) (by kernel_rfl) (fun _ _ _ h => h) (Or.inl ⟨by rfl, ?y29⟩) hHeld ?r29
  case y29 => (intro w hSw; (try dsimp only at hSw); go_simp; (try with_reducible rfl))
  try simp only [Act.put, List.setIfInBounds_toArray, List.set_cons_zero, List.set_cons_succ]
  refine wpAnyH_take (i := 30) (oi := { dst := some 112, op := Op.pick (Operand.tmp 102) (Operand.const (Value.bool true)) (Operand.tmp 111), type := 4, pos := "law.go:25", after := #[{ on := 20, ground := Ground.data }, { on := 29, ground := Ground.data }], guard := none }) (v := ?v30) rfl (by kernel_rfl) (by kernel_rfl) (by kernel_rfl) (fun _ _ _ h => h) (Or.inl ⟨by rfl, ?y30⟩) hHeld ?r30
  case y30 => (intro w hSw; (try dsimp only at hSw); go_simp; (try with_reducible rfl))
  try simp only [Act.put, List.setIfInBounds_toArray, List.set_cons_zero, List.set_cons_succ]
  refine wpAnyH_done (by kernel_rfl) ?_ _
  go_wp2
  go_loopw [115] (fun i wr => ∃ j : Nat, j ≤ y.size ∧ i = .int .i64 j ∧ TB w wr g7 x y ⟨#[]⟩ va vc) (fun i _ => y.size - (intOf i).toNat)
  case atStart => exact ⟨0, by omega, rfl, T7.out⟩
  case round =>
    obtain ⟨j, hj, rfl, hT⟩ := hrel
    have T7 := kept hT
    clear hT
    by_cases hlt : j < y.size
    · obtain ⟨g, rfl, ct⟩ := own_cell T7.out.own hlt
      rw [tcells_at hlt] at ct
      obtain ⟨c0, c1, c2⟩ := T7.out.cells
      have CJ := kept (fun w => reftype_any (y[j]'hlt).toNat w)
      go_wp2
      go_quiet ((go_at_call 54; exact quiet_o (CJ.out _)))
      have T8 : Hid (TB w (wr.drewN nq) g7 x y ⟨#[]⟩ (some ⟨g, 0, none⟩) vc) := T7.out.next ((Keeps.refl wr []).drewN nq)
      go_wp2
      go_roundw
      case rel => exact ⟨j + 1, by omega, by go_num, T8.out⟩
      case measure => simp [intOf]; omega
    · obtain rfl : j = y.size := by omega
      clear hj hlt
      obtain ⟨c0, c1, c2⟩ := T7.out.cells
      go_wp2_with fail
      refine (CK.out _).mono ?_
      rintro e wa ⟨rfl, rfl⟩
      go_upto_region 18 with (fail)
      go_cut [10] from 131 to 158 (fun t10 wx => t10 = .bool R ∧ wx = wr)
      case first =>
        rcases Bool.eq_false_or_eq_true (x.toList == [100, 105, 118]) with h_div | h_div
        · go_wp2
          go_meet
          exact ⟨congrArg Value.bool (by rw [← F18.out]; simp [h_div]), rfl⟩
        rcases Bool.eq_false_or_eq_true (x.toList == [114, 101, 109]) with h_rem | h_rem
        · go_wp2
          go_meet
          exact ⟨congrArg Value.bool (by rw [← F18.out]; simp [h_div, h_rem]), rfl⟩
        rcases Bool.eq_false_or_eq_true (x.toList == [108, 101, 110]) with h_len | h_len
        · go_wp2
          go_meet
          exact ⟨congrArg Value.bool (by rw [← F18.out]; simp [h_div, h_rem, h_len]), rfl⟩
        rcases Bool.eq_false_or_eq_true (x.toList == [108, 111, 97, 100]) with h_load | h_load
        · go_wp2
          go_meet
          exact ⟨congrArg Value.bool (by rw [← F18.out]; simp [h_div, h_rem, h_len, h_load]), rfl⟩
        rcases Bool.eq_false_or_eq_true (x.toList == [115, 116, 111, 114, 101]) with h_store | h_store
        · go_wp2
          go_meet
          exact ⟨congrArg Value.bool (by rw [← F18.out]; simp [h_div, h_rem, h_len, h_load, h_store]), rfl⟩
        rcases Bool.eq_false_or_eq_true (x.toList == [110, 101, 119]) with h_new | h_new
        · go_wp2
          go_meet
          exact ⟨congrArg Value.bool (by rw [← F18.out]; simp [h_div, h_rem, h_len, h_load, h_store, h_new]), rfl⟩
        go_wp2
        go_meet
        exact ⟨congrArg Value.bool (by rw [← F18.out]; simp [h_div, h_rem, h_len, h_load, h_store, h_new]), rfl⟩
      case rest =>
        obtain ⟨rfl, rfl⟩ := hcut
        go_upto_region 19 with (fail)
        go_cut [11] from 159 to 175 (fun t11 wx => t11 = .bool (!P) ∧ wx = wc)
        case first =>
          cases C
          · have fc := FC.out
            rcases Bool.eq_false_or_eq_true (x.toList == [115, 116, 111, 114, 101]) with h_store | h_store
            · go_wp2
              go_meet
              exact ⟨congrArg Value.bool (by rw [← F19.out]; simp [h_store]), rfl⟩
            rcases Bool.eq_false_or_eq_true (x.toList == [111, 117, 116]) with h_out | h_out
            · go_wp2
              go_meet
              exact ⟨congrArg Value.bool (by rw [← F19.out]; simp [h_store, h_out]), rfl⟩
            rcases Bool.eq_false_or_eq_true (x.toList == [110, 101, 119]) with h_new | h_new
            · go_wp2
              go_meet
              exact ⟨congrArg Value.bool (by rw [← F19.out]; simp [h_store, h_out, h_new]), rfl⟩
            go_wp2
            go_meet
            exact ⟨congrArg Value.bool (by rw [← F19.out]; simp [h_store, h_out, h_new]), rfl⟩
          · have fc := FC.out
            go_wp2
            go_meet
            exact ⟨congrArg Value.bool (by rw [← F19.out]; simp [fc]), rfl⟩
        case rest =>
          obtain ⟨rfl, rfl⟩ := hcut
          go_wp2_with fail
          refine (CO.out _).mono ?_
          rintro e w5 ⟨rfl, k5⟩
          have T9 := kept (T7.out.next k5)
          clear T7 c0 c1 c2 k5
          obtain ⟨c0, c1, c2⟩ := T9.out.cells
          obtain ⟨fcopy, fconst, fpi⟩ := F21.out
          have e0 : ((k : Int) == 0) = false := by simp; omega
          rw [e0] at fconst
          simp only [e0, Bool.false_or] at CN
          generalize ((k : Int) == 1) = b1 at *
          generalize ((k : Int) == 25) = b2 at *
          have fc := FC.out
          go_wp2
          go_region_held3 (fun w' => w'.cell? ⟨g7, 0, none⟩ = some (.string x)) (first | exact c0 | go_keep) (first | (go_at_call 53; (with_reducible refine (CX.out _).mono ?_); rintro e wx ⟨rfl, rfl⟩) | (go_at_call 50; (with_reducible refine (CC.out _).mono ?_); rintro e wx ⟨rfl, rfl⟩) | (go_at_call 51; (with_reducible refine (CR.out _).mono ?_); rintro e wx ⟨rfl, k⟩; have tx := T9.out.later k (by first | exact Keeps.refl _ [] | exact (Keeps.refl _ []).drew); obtain ⟨c0, c1, c2⟩ := tx.cells; have T9 := kept tx; clear k tx) | (go_at_call 52; (with_reducible refine (CP.out _).mono ?_); rintro e wx ⟨rfl, rfl⟩) | (go_at_call 48; (with_reducible refine (CA.out _).mono ?_); rintro e wx ⟨rfl, rfl⟩) | (go_at_call 49; (with_reducible refine (CN.out _).mono ?_); rintro e wx ⟨rfl, rfl⟩))
          go_wp2
          go_ret
          exact ⟨rfl, T9.out.keeps.below (Nat.le_refl _) (by simp)⟩
end Go.Proofs.Ytppidnjhdefbiaa
