/- Package ops: the law OpsTell, the operations: const. -/
import Derived.Test.YtppidnjhdefbiaaOpsTellA
import Derived.Deep.RegionHeld3
import Derived.Deep.Cut
import Derived.Deep.CutRange
namespace Go.Proofs.Ytppidnjhdefbiaa
open Go.RowKit
set_option linter.unusedVariables false
set_option linter.unusedSimpArgs false

set_option maxRecDepth 100000 in
set_option maxHeartbeats 8000000 in
theorem tell_0 (k : Nat) (hk : k < 27) (hk0 : Hid (k = 0)) (x y : ByteArray) (c : UInt8) (hc : c.toNat < 128) (hx : kword k = x) (hy : ktakes k = y) (hz : kmakes k = ⟨#[c]⟩) (hys : y.size ≤ 100) (hya : ∀ j (hj : j < y.size), (y[j]'hj).toNat < 128) (w : World) :
    Calls Try.prog 12 #[.int .i64 k] w fun e w' => e = .returned (.bool true) ∧ Below w.heap.size w w' := by
  have hof := of_yes k hk
  rw [hx, hy, hz] at hof
  have CT := kept (takes_any k x ⟨#[c]⟩ y hys hya hof)
  have CM := kept (makes_some k x y c hc hof)
  have CW := kept (word_yes k hk)
  rw [hx] at CW
  have CF := kept (show ∀ w, Calls Try.prog 54 #[.int .u8 (((⟨#[c]⟩ : ByteArray)[0]'(Nat.zero_lt_one)).toNat : Int)] w fun e w' => e = .returned (.int .i64 (tsign c.toNat)) ∧ w = w' from fun w => reftype_any c.toNat w)
  obtain ⟨e0, e1, e2⟩ := kcell k hk
  rw [hx] at e0
  rw [hy] at e1
  rw [hz] at e2
  have E0 := kept e0
  have E1 := kept e1
  have E2 := kept e2
  clear e0 e1 e2 hof hz
  obtain ⟨T, hT⟩ : ∃ T, (if chkB k = true then (k : Int) - 17 else 0) = T := ⟨_, rfl⟩
  obtain ⟨R, hR⟩ : ∃ T, rawB k = T := ⟨_, rfl⟩
  obtain ⟨P, hP⟩ : ∃ T, pureB k = T := ⟨_, rfl⟩
  obtain ⟨C, hC⟩ : ∃ T, chkB k = T := ⟨_, rfl⟩
  have f18 := cls18 k hk
  have f19 := cls19 k hk
  have f21 := cls21 k hk
  have fc := chk_pos k C hC
  have CK := kept (fun w => refcheck_any k w (by unfold inI; simp; omega))
  have CX := kept (fun w => trap_any k w (by unfold inI; simp; omega))
  have CO := kept (of_word k hk)
  have CC := kept (check_any k)
  have CR := kept (raw_any k)
  have CP := kept (pure_yes k hk)
  have CA := kept (any_any k)
  have CN := kept (numbered_any k)
  simp only [hT] at CK CX fc
  simp only [hR] at f18 CR
  simp only [hP] at f19 CP
  simp only [hC] at f19 CC
  simp only [hx] at f18 f19 f21 CO
  simp only [← to_data] at f18 f19 f21
  have F18 := kept f18
  have F19 := kept f19
  have F21 := kept f21
  have FC := kept fc
  clear f18 f19 f21 fc hT hR hP hC hx
  have HY := kept hy
  have HYA := kept hya
  clear hy hya
  go_enter Try.func12, Try.ntmps12
  go_wp2_with fail
  refine (opslives _).mono ?_
  rintro e w1 ⟨rfl, k1⟩
  go_wp2_with fail
  refine (rows_any _).mono ?_
  rintro e w2 ⟨rfl, hw2⟩
  have K2 := kept (show Keeps w w2 [] by rw [hw2]; exact Keeps.alloc k1 _)
  have B2 := kept (show Blk w2 w1.heap.size 50 kcells by rw [hw2]; exact Blk.new _ _ _)
  clear hw2 k1
  generalize w1.heap.size = g0 at *
  go_wp2_with fail
  refine (CT.out _).mono ?_
  rintro e w3 ⟨v, rfl, ho, k3⟩
  obtain ⟨va, vc, rfl, hvc⟩ := own_form ho
  have K3 := kept (K2.out.trans k3)
  have B3 := kept (B2.out.keep k3 (by simp))
  have O3 := kept (own_low ho (Nat.zero_le _))
  clear K2 B2 k3 ho
  simp only [List.append_nil] at K3
  go_wp2_with fail
  refine (CM.out _).mono ?_
  rintro e w4 ⟨rfl, k4⟩
  have K4 := kept (K3.out.trans k4)
  have B4 := kept (B3.out.keep k4 (by simp))
  have O4 := kept (own_keep O3.out k4 (by simp))
  clear K3 k4 O3 B3
  have c0 := B4.out.cell (k * 3)
  have c1 := B4.out.cell (k * 3 + 1)
  have c2 := B4.out.cell (k * 3 + 2)
  rw [E0.out] at c0
  rw [E1.out] at c1
  rw [E2.out] at c2
  go_wp2_with fail
  clear c0 c1 c2 E0 E1 E2 CT CM
  have T7 : Hid (TB w (w4.alloc (.cells #[.string x, .string y, .string ⟨#[c]⟩] 50)) w4.heap.size x y ⟨#[c]⟩ va vc) :=
    ⟨K4.out.alloc _, Blk.new _ _ _, own_keep O4.out ((Keeps.refl _ []).alloc _) (by simp)⟩
  clear K4 O4 B4
  generalize w4.alloc (.cells #[.string x, .string y, .string ⟨#[c]⟩] 50) = W7 at *
  generalize w4.heap.size = g7 at *
  obtain ⟨c0, c1, c2⟩ := T7.out.cells
  go_region_held3 (fun w' => w'.cell? ⟨g7, 0, none⟩ = some (.string x) ∧ w'.cell? ⟨g7, 1, none⟩ = some (.string y) ∧ w'.cell? ⟨g7, 2, none⟩ = some (.string ⟨#[c]⟩)) (go_keep) (first | (go_at_call 47; (with_reducible refine (CW.out _).mono ?_); rintro e wx ⟨rfl, k⟩; have tx := T7.out.later k (by first | exact Keeps.refl _ [] | exact (Keeps.refl _ []).drew); obtain ⟨c0, c1, c2⟩ := tx.cells; have T7 := kept tx; clear k tx) | (go_at_call 54; (with_reducible refine (CF.out _).mono ?_); rintro e wx ⟨rfl, rfl⟩))
  go_wp2
  go_loopw [115] (fun i wr => ∃ j : Nat, j ≤ y.size ∧ i = .int .i64 j ∧ TB w wr g7 x y ⟨#[c]⟩ va vc) (fun i _ => y.size - (intOf i).toNat)
  case atStart => exact ⟨0, by omega, rfl, T7.out⟩
  case round =>
    obtain ⟨j, hj, rfl, hT⟩ := hrel
    have T7 := kept hT
    clear hT
    by_cases hlt : j < y.size
    · obtain ⟨g, rfl, ct⟩ := own_cell T7.out.own hlt
      rw [tcells_at hlt] at ct
      obtain ⟨c0, c1, c2⟩ := T7.out.cells
      have CJ := kept (fun w => reftype_any (y[j]'hlt).toNat w)
      go_wp2
      go_quiet ((go_at_call 54; exact quiet_o (CJ.out _)))
      have T8 : Hid (TB w (wr.drewN nq) g7 x y ⟨#[c]⟩ (some ⟨g, 0, none⟩) vc) := T7.out.next ((Keeps.refl wr []).drewN nq)
      go_wp2
      go_roundw
      case rel => exact ⟨j + 1, by omega, by go_num, T8.out⟩
      case measure => simp [intOf]; omega
    · obtain rfl : j = y.size := by omega
      clear hj hlt
      obtain ⟨c0, c1, c2⟩ := T7.out.cells
      go_wp2_with fail
      refine (CK.out _).mono ?_
      rintro e wa ⟨rfl, rfl⟩
      go_upto_region 18 with (fail)
      go_cut [10] from 131 to 158 (fun t10 wx => t10 = .bool R ∧ wx = wr)
      case first =>
        rcases Bool.eq_false_or_eq_true (x.toList == [100, 105, 118]) with h_div | h_div
        · go_wp2
          go_meet
          exact ⟨congrArg Value.bool (by rw [← F18.out]; simp [h_div]), rfl⟩
        rcases Bool.eq_false_or_eq_true (x.toList == [114, 101, 109]) with h_rem | h_rem
        · go_wp2
          go_meet
          exact ⟨congrArg Value.bool (by rw [← F18.out]; simp [h_div, h_rem]), rfl⟩
        rcases Bool.eq_false_or_eq_true (x.toList == [108, 101, 110]) with h_len | h_len
        · go_wp2
          go_meet
          exact ⟨congrArg Value.bool (by rw [← F18.out]; simp [h_div, h_rem, h_len]), rfl⟩
        rcases Bool.eq_false_or_eq_true (x.toList == [108, 111, 97, 100]) with h_load | h_load
        · go_wp2
          go_meet
          exact ⟨congrArg Value.bool (by rw [← F18.out]; simp [h_div, h_rem, h_len, h_load]), rfl⟩
        rcases Bool.eq_false_or_eq_true (x.toList == [115, 116, 111, 114, 101]) with h_store | h_store
        · go_wp2
          go_meet
          exact ⟨congrArg Value.bool (by rw [← F18.out]; simp [h_div, h_rem, h_len, h_load, h_store]), rfl⟩
        rcases Bool.eq_false_or_eq_true (x.toList == [110, 101, 119]) with h_new | h_new
        · go_wp2
          go_meet
          exact ⟨congrArg Value.bool (by rw [← F18.out]; simp [h_div, h_rem, h_len, h_load, h_store, h_new]), rfl⟩
        go_wp2
        go_meet
        exact ⟨congrArg Value.bool (by rw [← F18.out]; simp [h_div, h_rem, h_len, h_load, h_store, h_new]), rfl⟩
      case rest =>
        obtain ⟨rfl, rfl⟩ := hcut
        go_upto_region 19 with (fail)
        go_cut [11] from 159 to 175 (fun t11 wx => t11 = .bool (!P) ∧ wx = wc)
        case first =>
          cases C
          · have fc := FC.out
            rcases Bool.eq_false_or_eq_true (x.toList == [115, 116, 111, 114, 101]) with h_store | h_store
            · go_wp2
              go_meet
              exact ⟨congrArg Value.bool (by rw [← F19.out]; simp [h_store]), rfl⟩
            rcases Bool.eq_false_or_eq_true (x.toList == [111, 117, 116]) with h_out | h_out
            · go_wp2
              go_meet
              exact ⟨congrArg Value.bool (by rw [← F19.out]; simp [h_store, h_out]), rfl⟩
            rcases Bool.eq_false_or_eq_true (x.toList == [110, 101, 119]) with h_new | h_new
            · go_wp2
              go_meet
              exact ⟨congrArg Value.bool (by rw [← F19.out]; simp [h_store, h_out, h_new]), rfl⟩
            go_wp2
            go_meet
            exact ⟨congrArg Value.bool (by rw [← F19.out]; simp [h_store, h_out, h_new]), rfl⟩
          · have fc := FC.out
            go_wp2
            go_meet
            exact ⟨congrArg Value.bool (by rw [← F19.out]; simp [fc]), rfl⟩
        case rest =>
          obtain ⟨rfl, rfl⟩ := hcut
          go_wp2_with fail
          refine (CO.out _).mono ?_
          rintro e w5 ⟨rfl, k5⟩
          have T9 := kept (T7.out.next k5)
          clear T7 c0 c1 c2 k5
          obtain ⟨c0, c1, c2⟩ := T9.out.cells
          obtain ⟨fcopy, fconst, fpi⟩ := F21.out
          have e0 : ((k : Int) == 0) = true := by rw [hk0.out]; rfl
          rw [e0] at fconst
          simp only [e0, Bool.true_or] at CN
          generalize ((k : Int) == 1) = b1 at *
          clear fpi
          have fc := FC.out
          go_wp2
          refine wp_region_held_drew (S := (fun w' => w'.cell? ⟨g7, 0, none⟩ = some (.string x))) (by kernel_rfl) ?hSs (fun hHeld => ?_)
          case hSs => exact c0
          refine wpAnyH_take (i := 0) (oi := { dst := some 182, op := Op.move (Operand.tmp 0), type := 44, pos := "law.go:37", after := #[], guard := none }) (v := ?v0) rfl (by kernel_rfl) (by kernel_rfl) (by kernel_rfl) (fun _ _ _ h => h) (Or.inl ⟨by rfl, ?y0⟩) hHeld ?r0
          case y0 => (intro w hSw; (try dsimp only at hSw); go_simp; (try with_reducible rfl))
          try simp only [Act.put, List.setIfInBounds_toArray, List.set_cons_zero, List.set_cons_succ]
          refine wpAnyH_take (i := 2) (oi := { dst := some 184, op := Op.move (Operand.tmp 9), type := 3, pos := "law.go:37", after := #[], guard := none }) (v := ?v2) rfl (by kernel_rfl) (by kernel_rfl) (by kernel_rfl) (fun _ _ _ h => h) (Or.inl ⟨by rfl, ?y2⟩) hHeld ?r2
          case y2 => (intro w hSw; (try dsimp only at hSw); go_simp; (try with_reducible rfl))
          try simp only [Act.put, List.setIfInBounds_toArray, List.set_cons_zero, List.set_cons_succ]
          refine wpAnyH_ready (rs := [1]) (by kernel_rfl) (by simp) ?_
          refine AllReadyH.cons (o := { dst := some 183, op := Op.call { callee := Callee.value (Operand.func 53), args := #[Operand.tmp 182], argTypes := #[44] }, type := 68, pos := "law.go:37", after := #[{ on := 0, ground := Ground.data }], guard := none }) rfl (fun K hK => ?_) AllReadyH.nil
          go_simp
          (with_reducible refine (CX.out _).mono ?_)
          rintro e wx ⟨rfl, rfl⟩
          show K _ _
          skip
          refine hK.out _ _ ?hS1 (fun hHeld => ?_)
          case hS1 => (first | exact c0 | exact hHeld)
          clear hK K
          try simp only [Act.put, List.setIfInBounds_toArray, List.set_cons_zero, List.set_cons_succ]
          refine wpAnyH_take (i := 3) (oi := { dst := some 185, op := Op.binOp BinOp.eql 3 (Operand.tmp 183) (Operand.tmp 184) 3, type := 4, pos := "law.go:37", after := #[{ on := 1, ground := Ground.data }, { on := 2, ground := Ground.data }], guard := none }) (v := ?v3) rfl (by kernel_rfl) (by kernel_rfl) (by kernel_rfl) (fun _ _ _ h => h) (Or.inl ⟨by rfl, ?y3⟩) hHeld ?r3
          case y3 => (intro w hSw; (try dsimp only at hSw); go_simp; (try with_reducible rfl))
          try simp only [Act.put, List.setIfInBounds_toArray, List.set_cons_zero, List.set_cons_succ]
          refine wpAnyH_take (i := 4) (oi := { dst := some 186, op := Op.move (Operand.tmp 185), type := 4, pos := "law.go:37", after := #[{ on := 3, ground := Ground.data }, { on := 1, ground := Ground.chain }], guard := none }) (v := ?v4) rfl (by kernel_rfl) (by kernel_rfl) (by kernel_rfl) (fun _ _ _ h => h) (Or.inl ⟨by rfl, ?y4⟩) hHeld ?r4
          case y4 => (intro w hSw; (try dsimp only at hSw); go_simp; (try with_reducible rfl))
          try simp only [Act.put, List.setIfInBounds_toArray, List.set_cons_zero, List.set_cons_succ]
          refine wpAnyH_take (i := 5) (oi := { dst := some 187, op := Op.move (Operand.tmp 0), type := 44, pos := "law.go:37", after := #[{ on := 4, ground := Ground.guard }], guard := some (4, true) }) (v := ?v5) rfl (by kernel_rfl) (by kernel_rfl) (by kernel_rfl) (fun _ _ _ h => h) (Or.inl ⟨by rfl, ?y5⟩) hHeld ?r5
          case y5 => (intro w hSw; (try dsimp only at hSw); go_simp; (try with_reducible rfl))
          try simp only [Act.put, List.setIfInBounds_toArray, List.set_cons_zero, List.set_cons_succ]
          refine wpAnyH_take (i := 7) (oi := { dst := some 189, op := Op.move (Operand.tmp 9), type := 3, pos := "law.go:37", after := #[{ on := 4, ground := Ground.guard }], guard := some (4, true) }) (v := ?v7) rfl (by kernel_rfl) (by kernel_rfl) (by kernel_rfl) (fun _ _ _ h => h) (Or.inl ⟨by rfl, ?y7⟩) hHeld ?r7
          case y7 => (intro w hSw; (try dsimp only at hSw); go_simp; (try with_reducible rfl))
          try simp only [Act.put, List.setIfInBounds_toArray, List.set_cons_zero, List.set_cons_succ]
          refine wpAnyH_take (i := 8) (oi := { dst := some 190, op := Op.binOp BinOp.gtr 3 (Operand.tmp 189) (Operand.const (Value.int IntKind.i64 0)) 3, type := 4, pos := "law.go:37", after := #[{ on := 7, ground := Ground.data }, { on := 4, ground := Ground.guard }], guard := some (4, true) }) (v := ?v8) rfl (by kernel_rfl) (by kernel_rfl) (by kernel_rfl) (fun _ _ _ h => h) (Or.inl ⟨by rfl, ?y8⟩) hHeld ?r8
          case y8 => (intro w hSw; (try dsimp only at hSw); go_simp; (try with_reducible rfl))
          try simp only [Act.put, List.setIfInBounds_toArray, List.set_cons_zero, List.set_cons_succ]
          refine wpAnyH_ready (rs := [6]) (by kernel_rfl) (by simp) ?_
          refine AllReadyH.cons (o := { dst := some 188, op := Op.call { callee := Callee.value (Operand.func 50), args := #[Operand.tmp 187], argTypes := #[44] }, type := 4, pos := "law.go:37", after := #[{ on := 5, ground := Ground.data }, { on := 4, ground := Ground.chain }, { on := 4, ground := Ground.guard }], guard := some (4, true) }) rfl (fun K hK => ?_) AllReadyH.nil
          go_simp
          (with_reducible refine (CC.out _).mono ?_)
          rintro e wx ⟨rfl, rfl⟩
          show K _ _
          skip
          refine hK.out _ _ ?hS6 (fun hHeld => ?_)
          case hS6 => (first | exact c0 | exact hHeld)
          clear hK K
          try simp only [Act.put, List.setIfInBounds_toArray, List.set_cons_zero, List.set_cons_succ]
          refine wpAnyH_take (i := 9) (oi := { dst := some 191, op := Op.binOp BinOp.eql 4 (Operand.tmp 188) (Operand.tmp 190) 4, type := 4, pos := "law.go:37", after := #[{ on := 6, ground := Ground.data }, { on := 8, ground := Ground.data }, { on := 4, ground := Ground.guard }], guard := some (4, true) }) (v := ?v9) rfl (by kernel_rfl) (by kernel_rfl) (by kernel_rfl) (fun _ _ _ h => h) (Or.inl ⟨by rfl, ?y9⟩) hHeld ?r9
          case y9 => (intro w hSw; (try dsimp only at hSw); go_simp; (try with_reducible rfl))
          try simp only [Act.put, List.setIfInBounds_toArray, List.set_cons_zero, List.set_cons_succ]
          refine wpAnyH_take (i := 10) (oi := { dst := some 192, op := Op.pick (Operand.tmp 186) (Operand.tmp 191) (Operand.const (Value.bool false)), type := 4, pos := "law.go:37", after := #[{ on := 4, ground := Ground.data }, { on := 9, ground := Ground.data }], guard := none }) (v := ?v10) rfl (by kernel_rfl) (by kernel_rfl) (by kernel_rfl) (fun _ _ _ h => h) (Or.inl ⟨by rfl, ?y10⟩) hHeld ?r10
          case y10 => (intro w hSw; (try dsimp only at hSw); go_simp; (try with_reducible rfl))
          try simp only [Act.put, List.setIfInBounds_toArray, List.set_cons_zero, List.set_cons_succ]
          refine wpAnyH_take (i := 11) (oi := { dst := some 193, op := Op.move (Operand.tmp 192), type := 4, pos := "law.go:37", after := #[{ on := 10, ground := Ground.data }, { on := 6, ground := Ground.chain }], guard := none }) (v := ?v11) rfl (by kernel_rfl) (by kernel_rfl) (by kernel_rfl) (fun _ _ _ h => h) (Or.inl ⟨by rfl, ?y11⟩) hHeld ?r11
          case y11 => (intro w hSw; (try dsimp only at hSw); go_simp; (try with_reducible rfl))
          try simp only [Act.put, List.setIfInBounds_toArray, List.set_cons_zero, List.set_cons_succ]
          refine wpAnyH_take (i := 12) (oi := { dst := some 194, op := Op.move (Operand.tmp 0), type := 44, pos := "law.go:37", after := #[{ on := 11, ground := Ground.guard }], guard := some (11, true) }) (v := ?v12) rfl (by kernel_rfl) (by kernel_rfl) (by kernel_rfl) (fun _ _ _ h => h) (Or.inl ⟨by rfl, ?y12⟩) hHeld ?r12
          case y12 => (intro w hSw; (try dsimp only at hSw); go_simp; (try with_reducible rfl))
          try simp only [Act.put, List.setIfInBounds_toArray, List.set_cons_zero, List.set_cons_succ]
          refine wpAnyH_take (i := 14) (oi := { dst := some 196, op := Op.move (Operand.tmp 10), type := 4, pos := "law.go:37", after := #[{ on := 11, ground := Ground.guard }], guard := some (11, true) }) (v := ?v14) rfl (by kernel_rfl) (by kernel_rfl) (by kernel_rfl) (fun _ _ _ h => h) (Or.inl ⟨by rfl, ?y14⟩) hHeld ?r14
          case y14 => (intro w hSw; (try dsimp only at hSw); go_simp; (try with_reducible rfl))
          try simp only [Act.put, List.setIfInBounds_toArray, List.set_cons_zero, List.set_cons_succ]
          refine wpAnyH_ready (rs := [13]) (by kernel_rfl) (by simp) ?_
          refine AllReadyH.cons (o := { dst := some 195, op := Op.call { callee := Callee.value (Operand.func 51), args := #[Operand.tmp 194], argTypes := #[44] }, type := 4, pos := "law.go:37", after := #[{ on := 12, ground := Ground.data }, { on := 11, ground := Ground.chain }, { on := 11, ground := Ground.guard }], guard := some (11, true) }) rfl (fun K hK => ?_) AllReadyH.nil
          go_simp
          (with_reducible refine (CR.out _).mono ?_)
          rintro e wx ⟨rfl, k⟩
          show K _ _
          have tx := T9.out.later k (by first | exact Keeps.refl _ [] | exact (Keeps.refl _ []).drew)
          clear k c0 c1 c2 T9
          obtain ⟨c0, c1, c2⟩ := tx.cells
          have T9 := kept tx
          clear tx
          skip
          refine hK.out _ _ ?hS13 (fun hHeld => ?_)
          case hS13 => (first | exact c0 | exact hHeld)
          clear hK K
          try simp only [Act.put, List.setIfInBounds_toArray, List.set_cons_zero, List.set_cons_succ]
          refine wpAnyH_take (i := 15) (oi := { dst := some 197, op := Op.binOp BinOp.eql 4 (Operand.tmp 195) (Operand.tmp 196) 4, type := 4, pos := "law.go:37", after := #[{ on := 13, ground := Ground.data }, { on := 14, ground := Ground.data }, { on := 11, ground := Ground.guard }], guard := some (11, true) }) (v := ?v15) rfl (by kernel_rfl) (by kernel_rfl) (by kernel_rfl) (fun _ _ _ h => h) (Or.inl ⟨by rfl, ?y15⟩) hHeld ?r15
          case y15 => (intro w hSw; (try dsimp only at hSw); go_simp; (try with_reducible rfl))
          try simp only [Act.put, List.setIfInBounds_toArray, List.set_cons_zero, List.set_cons_succ]
          refine wpAnyH_take (i := 16) (oi := { dst := some 198, op := Op.pick (Operand.tmp 193) (Operand.tmp 197) (Operand.const (Value.bool false)), type := 4, pos := "law.go:37", after := #[{ on := 11, ground := Ground.data }, { on := 15, ground := Ground.data }], guard := none }) (v := ?v16) rfl (by kernel_rfl) (by kernel_rfl) (by kernel_rfl) (fun _ _ _ h => h) (Or.inl ⟨by rfl, ?y16⟩) hHeld ?r16
          case y16 => (intro w hSw; (try dsimp only at hSw); go_simp; (try with_reducible rfl))
          try simp only [Act.put, List.setIfInBounds_toArray, List.set_cons_zero, List.set_cons_succ]
          refine wpAnyH_take (i := 17) (oi := { dst := some 199, op := Op.move (Operand.tmp 198), type := 4, pos := "law.go:37", after := #[{ on := 16, ground := Ground.data }, { on := 13, ground := Ground.chain }], guard := none }) (v := ?v17) rfl (by kernel_rfl) (by kernel_rfl) (by kernel_rfl) (fun _ _ _ h => h) (Or.inl ⟨by rfl, ?y17⟩) hHeld ?r17
          case y17 => (intro w hSw; (try dsimp only at hSw); go_simp; (try with_reducible rfl))
          try simp only [Act.put, List.setIfInBounds_toArray, List.set_cons_zero, List.set_cons_succ]
          refine wpAnyH_take (i := 18) (oi := { dst := some 200, op := Op.move (Operand.tmp 0), type := 44, pos := "law.go:37", after := #[{ on := 17, ground := Ground.guard }], guard := some (17, true) }) (v := ?v18) rfl (by kernel_rfl) (by kernel_rfl) (by kernel_rfl) (fun _ _ _ h => h) (Or.inl ⟨by rfl, ?y18⟩) hHeld ?r18
          case y18 => (intro w hSw; (try dsimp only at hSw); go_simp; (try with_reducible rfl))
          try simp only [Act.put, List.setIfInBounds_toArray, List.set_cons_zero, List.set_cons_succ]
          refine wpAnyH_take (i := 20) (oi := { dst := some 202, op := Op.move (Operand.tmp 11), type := 4, pos := "law.go:37", after := #[{ on := 17, ground := Ground.guard }], guard := some (17, true) }) (v := ?v20) rfl (by kernel_rfl) (by kernel_rfl) (by kernel_rfl) (fun _ _ _ h => h) (Or.inl ⟨by rfl, ?y20⟩) hHeld ?r20
          case y20 => (intro w hSw; (try dsimp only at hSw); go_simp; (try with_reducible rfl))
          try simp only [Act.put, List.setIfInBounds_toArray, List.set_cons_zero, List.set_cons_succ]
          refine wpAnyH_ready (rs := [19]) (by kernel_rfl) (by simp) ?_
          refine AllReadyH.cons (o := { dst := some 201, op := Op.call { callee := Callee.value (Operand.func 52), args := #[Operand.tmp 200], argTypes := #[44] }, type := 4, pos := "law.go:37", after := #[{ on := 18, ground := Ground.data }, { on := 17, ground := Ground.chain }, { on := 17, ground := Ground.guard }], guard := some (17, true) }) rfl (fun K hK => ?_) AllReadyH.nil
          go_simp
          (with_reducible refine (CP.out _).mono ?_)
          rintro e wx ⟨rfl, rfl⟩
          show K _ _
          skip
          refine hK.out _ _ ?hS19 (fun hHeld => ?_)
          case hS19 => (first | exact c0 | exact hHeld)
          clear hK K
          try simp only [Act.put, List.setIfInBounds_toArray, List.set_cons_zero, List.set_cons_succ]
          refine wpAnyH_take (i := 21) (oi := { dst := some 203, op := Op.binOp BinOp.neq 4 (Operand.tmp 201) (Operand.tmp 202) 4, type := 4, pos := "law.go:37", after := #[{ on := 19, ground := Ground.data }, { on := 20, ground := Ground.data }, { on := 17, ground := Ground.guard }], guard := some (17, true) }) (v := ?v21) rfl (by kernel_rfl) (by kernel_rfl) (by kernel_rfl) (fun _ _ _ h => h) (Or.inl ⟨by rfl, ?y21⟩) hHeld ?r21
          case y21 => (intro w hSw; (try dsimp only at hSw); go_simp; (try with_reducible rfl))
          try simp only [Act.put, List.setIfInBounds_toArray, List.set_cons_zero, List.set_cons_succ]
          refine wpAnyH_take (i := 22) (oi := { dst := some 204, op := Op.pick (Operand.tmp 199) (Operand.tmp 203) (Operand.const (Value.bool false)), type := 4, pos := "law.go:37", after := #[{ on := 17, ground := Ground.data }, { on := 21, ground := Ground.data }], guard := none }) (v := ?v22) rfl (by kernel_rfl) (by kernel_rfl) (by kernel_rfl) (fun _ _ _ h => h) (Or.inl ⟨by rfl, ?y22⟩) hHeld ?r22
          case y22 => (intro w hSw; (try dsimp only at hSw); go_simp; (try with_reducible rfl))
          try simp only [Act.put, List.setIfInBounds_toArray, List.set_cons_zero, List.set_cons_succ]
          refine wpAnyH_take (i := 23) (oi := { dst := some 205, op := Op.move (Operand.tmp 204), type := 4, pos := "law.go:37", after := #[{ on := 22, ground := Ground.data }, { on := 19, ground := Ground.chain }], guard := none }) (v := ?v23) rfl (by kernel_rfl) (by kernel_rfl) (by kernel_rfl) (fun _ _ _ h => h) (Or.inl ⟨by rfl, ?y23⟩) hHeld ?r23
          case y23 => (intro w hSw; (try dsimp only at hSw); go_simp; (try with_reducible rfl))
          try simp only [Act.put, List.setIfInBounds_toArray, List.set_cons_zero, List.set_cons_succ]
          refine wpAnyH_take (i := 24) (oi := { dst := some 206, op := Op.move (Operand.tmp 0), type := 44, pos := "law.go:37", after := #[{ on := 23, ground := Ground.guard }], guard := some (23, true) }) (v := ?v24) rfl (by kernel_rfl) (by kernel_rfl) (by kernel_rfl) (fun _ _ _ h => h) (Or.inl ⟨by rfl, ?y24⟩) hHeld ?r24
          case y24 => (intro w hSw; (try dsimp only at hSw); go_simp; (try with_reducible rfl))
          try simp only [Act.put, List.setIfInBounds_toArray, List.set_cons_zero, List.set_cons_succ]
          refine wpAnyH_take (i := 26) (oi := { dst := some 208, op := Op.fieldAddr 50 (Operand.tmp 7) 0, type := 0, pos := "law.go:37", after := #[{ on := 23, ground := Ground.guard }], guard := some (23, true) }) (v := ?v26) rfl (by kernel_rfl) (by kernel_rfl) (by kernel_rfl) (fun _ _ _ h => h) (Or.inl ⟨by rfl, ?y26⟩) hHeld ?r26
          case y26 => (intro w hSw; (try dsimp only at hSw); go_simp; (try with_reducible rfl))
          try simp only [Act.put, List.setIfInBounds_toArray, List.set_cons_zero, List.set_cons_succ]
          refine wpAnyH_take (i := 27) (oi := { dst := some 209, op := Op.load 9 (Operand.tmp 208), type := 9, pos := "law.go:37", after := #[{ on := 26, ground := Ground.data }, { on := 23, ground := Ground.guard }], guard := some (23, true) }) (v := ?v27) rfl (by kernel_rfl) (by kernel_rfl) (by kernel_rfl) (fun _ _ _ h => h) (Or.inl ⟨by rfl, ?y27⟩) hHeld ?r27
          case y27 => (intro w hSw; (try dsimp only at hSw); go_simp; (try with_reducible rfl))
          try simp only [Act.put, List.setIfInBounds_toArray, List.set_cons_zero, List.set_cons_succ]
          refine wpAnyH_take (i := 28) (oi := { dst := some 210, op := Op.binOp BinOp.eql 9 (Operand.tmp 209) (Operand.const (Value.string { data := #[99, 111, 112, 121] })) 9, type := 4, pos := "law.go:37", after := #[{ on := 27, ground := Ground.data }, { on := 23, ground := Ground.guard }], guard := some (23, true) }) (v := ?v28) rfl (by kernel_rfl) (by kernel_rfl) (by kernel_rfl) (fun _ _ _ h => h) (Or.inl ⟨by rfl, ?y28⟩) hHeld ?r28
          case y28 => (intro w hSw; (try dsimp only at hSw); go_simp; (try with_reducible rfl))
          try simp only [Act.put, List.setIfInBounds_toArray, List.set_cons_zero, List.set_cons_succ]
          refine wpAnyH_ready (rs := [25]) (by kernel_rfl) (by simp) ?_
          refine AllReadyH.cons (o := { dst := some 207, op := Op.call { callee := Callee.value (Operand.func 48), args := #[Operand.tmp 206], argTypes := #[44] }, type := 4, pos := "law.go:37", after := #[{ on := 24, ground := Ground.data }, { on := 23, ground := Ground.chain }, { on := 23, ground := Ground.guard }], guard := some (23, true) }) rfl (fun K hK => ?_) AllReadyH.nil
          go_simp
          (with_reducible refine (CA.out _).mono ?_)
          rintro e wx ⟨rfl, rfl⟩
          show K _ _
          skip
          refine hK.out _ _ ?hS25 (fun hHeld => ?_)
          case hS25 => (first | exact c0 | exact hHeld)
          clear hK K
          try simp only [Act.put, List.setIfInBounds_toArray, List.set_cons_zero, List.set_cons_succ]
          refine wpAnyH_take (i := 29) (oi := { dst := some 211, op := Op.binOp BinOp.eql 4 (Operand.tmp 207) (Operand.tmp 210) 4, type := 4, pos := "law.go:37", after := #[{ on := 25, ground := Ground.data }, { on := 28, ground := Ground.data }, { on := 23, ground := Ground.guard }], guard := some (23, true) }) (v := ?v29) rfl (by kernel_rfl) (by kernel_rfl) (by kernel_rfl) (fun _ _ _ h => h) (Or.inl ⟨by rfl, ?y29⟩) hHeld ?r29
          case y29 => (intro w hSw; (try dsimp only at hSw); go_simp; (try with_reducible rfl))
          try simp only [Act.put, List.setIfInBounds_toArray, List.set_cons_zero, List.set_cons_succ]
          refine wpAnyH_take (i := 30) (oi := { dst := some 212, op := Op.pick (Operand.tmp 205) (Operand.tmp 211) (Operand.const (Value.bool false)), type := 4, pos := "law.go:37", after := #[{ on := 23, ground := Ground.data }, { on := 29, ground := Ground.data }], guard := none }) (v := ?v30) rfl (by kernel_rfl) (by kernel_rfl) (by kernel_rfl) (fun _ _ _ h => h) (Or.inl ⟨by rfl, ?y30⟩) hHeld ?r30
          case y30 => (intro w hSw; (try dsimp only at hSw); go_simp; (try with_reducible rfl))
          try simp only [Act.put, List.setIfInBounds_toArray, List.set_cons_zero, List.set_cons_succ]
          refine wpAnyH_take (i := 31) (oi := { dst := some 213, op := Op.move (Operand.tmp 212), type := 4, pos := "law.go:37", after := #[{ on := 30, ground := Ground.data }, { on := 25, ground := Ground.chain }], guard := none }) (v := ?v31) rfl (by kernel_rfl) (by kernel_rfl) (by kernel_rfl) (fun _ _ _ h => h) (Or.inl ⟨by rfl, ?y31⟩) hHeld ?r31
          case y31 => (intro w hSw; (try dsimp only at hSw); go_simp; (try with_reducible rfl))
          try simp only [Act.put, List.setIfInBounds_toArray, List.set_cons_zero, List.set_cons_succ]
          refine wpAnyH_take (i := 32) (oi := { dst := some 214, op := Op.move (Operand.tmp 0), type := 44, pos := "law.go:37", after := #[{ on := 31, ground := Ground.guard }], guard := some (31, true) }) (v := ?v32) rfl (by kernel_rfl) (by kernel_rfl) (by kernel_rfl) (fun _ _ _ h => h) (Or.inl ⟨by rfl, ?y32⟩) hHeld ?r32
          case y32 => (intro w hSw; (try dsimp only at hSw); go_simp; (try with_reducible rfl))
          try simp only [Act.put, List.setIfInBounds_toArray, List.set_cons_zero, List.set_cons_succ]
          refine wpAnyH_take (i := 34) (oi := { dst := some 216, op := Op.fieldAddr 50 (Operand.tmp 7) 0, type := 0, pos := "law.go:37", after := #[{ on := 31, ground := Ground.guard }], guard := some (31, true) }) (v := ?v34) rfl (by kernel_rfl) (by kernel_rfl) (by kernel_rfl) (fun _ _ _ h => h) (Or.inl ⟨by rfl, ?y34⟩) hHeld ?r34
          case y34 => (intro w hSw; (try dsimp only at hSw); go_simp; (try with_reducible rfl))
          try simp only [Act.put, List.setIfInBounds_toArray, List.set_cons_zero, List.set_cons_succ]
          refine wpAnyH_take (i := 35) (oi := { dst := some 217, op := Op.load 9 (Operand.tmp 216), type := 9, pos := "law.go:37", after := #[{ on := 34, ground := Ground.data }, { on := 31, ground := Ground.guard }], guard := some (31, true) }) (v := ?v35) rfl (by kernel_rfl) (by kernel_rfl) (by kernel_rfl) (fun _ _ _ h => h) (Or.inl ⟨by rfl, ?y35⟩) hHeld ?r35
          case y35 => (intro w hSw; (try dsimp only at hSw); go_simp; (try with_reducible rfl))
          try simp only [Act.put, List.setIfInBounds_toArray, List.set_cons_zero, List.set_cons_succ]
          refine wpAnyH_take (i := 36) (oi := { dst := some 218, op := Op.binOp BinOp.eql 9 (Operand.tmp 217) (Operand.const (Value.string { data := #[99, 111, 110, 115, 116] })) 9, type := 4, pos := "law.go:37", after := #[{ on := 35, ground := Ground.data }, { on := 31, ground := Ground.guard }], guard := some (31, true) }) (v := ?v36) rfl (by kernel_rfl) (by kernel_rfl) (by kernel_rfl) (fun _ _ _ h => h) (Or.inl ⟨by rfl, ?y36⟩) hHeld ?r36
          case y36 => (intro w hSw; (try dsimp only at hSw); go_simp; (try with_reducible rfl))
          try simp only [Act.put, List.setIfInBounds_toArray, List.set_cons_zero, List.set_cons_succ]
          refine wpAnyH_ready (rs := [33]) (by kernel_rfl) (by simp) ?_
          refine AllReadyH.cons (o := { dst := some 215, op := Op.call { callee := Callee.value (Operand.func 49), args := #[Operand.tmp 214], argTypes := #[44] }, type := 4, pos := "law.go:37", after := #[{ on := 32, ground := Ground.data }, { on := 31, ground := Ground.chain }, { on := 31, ground := Ground.guard }], guard := some (31, true) }) rfl (fun K hK => ?_) AllReadyH.nil
          go_simp
          (with_reducible refine (CN.out _).mono ?_)
          rintro e wx ⟨rfl, rfl⟩
          show K _ _
          skip
          refine hK.out _ _ ?hS33 (fun hHeld => ?_)
          case hS33 => (first | exact c0 | exact hHeld)
          clear hK K
          try simp only [Act.put, List.setIfInBounds_toArray, List.set_cons_zero, List.set_cons_succ]
          refine wpAnyH_take (i := 37) (oi := { dst := some 219, op := Op.move (Operand.tmp 218), type := 4, pos := "law.go:37", after := #[{ on := 36, ground := Ground.data }, { on := 33, ground := Ground.chain }, { on := 31, ground := Ground.guard }], guard := some (31, true) }) (v := ?v37) rfl (by kernel_rfl) (by kernel_rfl) (by kernel_rfl) (fun _ _ _ h => h) (Or.inl ⟨by rfl, ?y37⟩) hHeld ?r37
          case y37 => (intro w hSw; (try dsimp only at hSw); go_simp; (try with_reducible rfl))
          try simp only [Act.put, List.setIfInBounds_toArray, List.set_cons_zero, List.set_cons_succ]
          refine wpAnyH_take (i := 38) (oi := { dst := some 220, op := Op.fieldAddr 50 (Operand.tmp 7) 0, type := 0, pos := "law.go:37", after := #[{ on := 37, ground := Ground.guard }], guard := some (37, false) }) (v := undef) rfl (by kernel_rfl) (by kernel_rfl) (by kernel_rfl) (fun _ _ _ h => h) (Or.inr ⟨by rfl, rfl⟩) hHeld ?_
          try simp only [Act.put, List.setIfInBounds_toArray, List.set_cons_zero, List.set_cons_succ]
          refine wpAnyH_take (i := 39) (oi := { dst := some 221, op := Op.load 9 (Operand.tmp 220), type := 9, pos := "law.go:37", after := #[{ on := 38, ground := Ground.data }, { on := 37, ground := Ground.guard }], guard := some (37, false) }) (v := undef) rfl (by kernel_rfl) (by kernel_rfl) (by kernel_rfl) (fun _ _ _ h => h) (Or.inr ⟨by rfl, rfl⟩) hHeld ?_
          try simp only [Act.put, List.setIfInBounds_toArray, List.set_cons_zero, List.set_cons_succ]
          refine wpAnyH_take (i := 40) (oi := { dst := some 222, op := Op.binOp BinOp.eql 9 (Operand.tmp 221) (Operand.const (Value.string { data := #[112, 105] })) 9, type := 4, pos := "law.go:37", after := #[{ on := 39, ground := Ground.data }, { on := 37, ground := Ground.guard }], guard := some (37, false) }) (v := undef) rfl (by kernel_rfl) (by kernel_rfl) (by kernel_rfl) (fun _ _ _ h => h) (Or.inr ⟨by rfl, rfl⟩) hHeld ?_
          try simp only [Act.put, List.setIfInBounds_toArray, List.set_cons_zero, List.set_cons_succ]
          refine wpAnyH_take (i := 41) (oi := { dst := some 223, op := Op.pick (Operand.tmp 219) (Operand.const (Value.bool true)) (Operand.tmp 222), type := 4, pos := "law.go:37", after := #[{ on := 37, ground := Ground.data }, { on := 40, ground := Ground.data }, { on := 31, ground := Ground.guard }], guard := some (31, true) }) (v := ?v41) rfl (by kernel_rfl) (by kernel_rfl) (by kernel_rfl) (fun _ _ _ h => h) (Or.inl ⟨by rfl, ?y41⟩) hHeld ?r41
          case y41 => (intro w hSw; (try dsimp only at hSw); go_simp; (try with_reducible rfl))
          try simp only [Act.put, List.setIfInBounds_toArray, List.set_cons_zero, List.set_cons_succ]
          refine wpAnyH_take (i := 42) (oi := { dst := some 224, op := Op.binOp BinOp.eql 4 (Operand.tmp 215) (Operand.tmp 223) 4, type := 4, pos := "law.go:37", after := #[{ on := 33, ground := Ground.data }, { on := 41, ground := Ground.data }, { on := 31, ground := Ground.guard }], guard := some (31, true) }) (v := ?v42) rfl (by kernel_rfl) (by kernel_rfl) (by kernel_rfl) (fun _ _ _ h => h) (Or.inl ⟨by rfl, ?y42⟩) hHeld ?r42
          case y42 => (intro w hSw; (try dsimp only at hSw); go_simp; (try with_reducible rfl))
          try simp only [Act.put, List.setIfInBounds_toArray, List.set_cons_zero, List.set_cons_succ]
          refine wpAnyH_take (i := 43) (oi := { dst := some 225, op := Op.pick (Operand.tmp 213) (Operand.tmp 224) (Operand.const (Value.bool false)), type := 4, pos := "law.go:37", after := #[{ on := 31, ground := Ground.data }, { on := 42, ground := Ground.data }], guard := none }) (v := ?v43) rfl (by kernel_rfl) (by kernel_rfl) (by kernel_rfl) (fun _ _ _ h => h) (Or.inl ⟨by rfl, ?y43⟩) hHeld ?r43
          case y43 => (intro w hSw; (try dsimp only at hSw); go_simp; (try with_reducible rfl))
          try simp only [Act.put, List.setIfInBounds_toArray, List.set_cons_zero, List.set_cons_succ]
          refine wpAnyH_take (i := 44) (oi := { dst := some 226, op := Op.move (Operand.tmp 225), type := 4, pos := "law.go:37", after := #[{ on := 43, ground := Ground.data }, { on := 37, ground := Ground.chain }], guard := none }) (v := ?v44) rfl (by kernel_rfl) (by kernel_rfl) (by kernel_rfl) (fun _ _ _ h => h) (Or.inl ⟨by rfl, ?y44⟩) hHeld ?r44
          case y44 => (intro w hSw; (try dsimp only at hSw); go_simp; (try with_reducible rfl))
          try simp only [Act.put, List.setIfInBounds_toArray, List.set_cons_zero, List.set_cons_succ]
          refine wpAnyH_take (i := 45) (oi := { dst := some 227, op := Op.move (Operand.tmp 13), type := 4, pos := "law.go:37", after := #[{ on := 44, ground := Ground.guard }], guard := some (44, true) }) (v := ?v45) rfl (by kernel_rfl) (by kernel_rfl) (by kernel_rfl) (fun _ _ _ h => h) (Or.inl ⟨by rfl, ?y45⟩) hHeld ?r45
          case y45 => (intro w hSw; (try dsimp only at hSw); go_simp; (try with_reducible rfl))
          try simp only [Act.put, List.setIfInBounds_toArray, List.set_cons_zero, List.set_cons_succ]
          refine wpAnyH_take (i := 46) (oi := { dst := some 228, op := Op.pick (Operand.tmp 226) (Operand.tmp 227) (Operand.const (Value.bool false)), type := 4, pos := "law.go:37", after := #[{ on := 44, ground := Ground.data }, { on := 45, ground := Ground.data }], guard := none }) (v := ?v46) rfl (by kernel_rfl) (by kernel_rfl) (by kernel_rfl) (fun _ _ _ h => h) (Or.inl ⟨by rfl, ?y46⟩) hHeld ?r46
          case y46 => (intro w hSw; (try dsimp only at hSw); go_simp; (try with_reducible rfl))
          try simp only [Act.put, List.setIfInBounds_toArray, List.set_cons_zero, List.set_cons_succ]
          refine wpAnyH_take (i := 47) (oi := { dst := some 229, op := Op.move (Operand.tmp 228), type := 4, pos := "law.go:37", after := #[{ on := 46, ground := Ground.data }, { on := 44, ground := Ground.chain }], guard := none }) (v := ?v47) rfl (by kernel_rfl) (by kernel_rfl) (by kernel_rfl) (fun _ _ _ h => h) (Or.inl ⟨by rfl, ?y47⟩) hHeld ?r47
          case y47 => (intro w hSw; (try dsimp only at hSw); go_simp; (try with_reducible rfl))
          try simp only [Act.put, List.setIfInBounds_toArray, List.set_cons_zero, List.set_cons_succ]
          refine wpAnyH_take (i := 48) (oi := { dst := some 230, op := Op.move (Operand.tmp 12), type := 44, pos := "law.go:37", after := #[{ on := 47, ground := Ground.guard }], guard := some (47, true) }) (v := ?v48) rfl (by kernel_rfl) (by kernel_rfl) (by kernel_rfl) (fun _ _ _ h => h) (Or.inl ⟨by rfl, ?y48⟩) hHeld ?r48
          case y48 => (intro w hSw; (try dsimp only at hSw); go_simp; (try with_reducible rfl))
          try simp only [Act.put, List.setIfInBounds_toArray, List.set_cons_zero, List.set_cons_succ]
          refine wpAnyH_take (i := 49) (oi := { dst := some 231, op := Op.move (Operand.tmp 0), type := 44, pos := "law.go:37", after := #[{ on := 47, ground := Ground.guard }], guard := some (47, true) }) (v := ?v49) rfl (by kernel_rfl) (by kernel_rfl) (by kernel_rfl) (fun _ _ _ h => h) (Or.inl ⟨by rfl, ?y49⟩) hHeld ?r49
          case y49 => (intro w hSw; (try dsimp only at hSw); go_simp; (try with_reducible rfl))
          try simp only [Act.put, List.setIfInBounds_toArray, List.set_cons_zero, List.set_cons_succ]
          refine wpAnyH_take (i := 50) (oi := { dst := some 232, op := Op.binOp BinOp.eql 44 (Operand.tmp 230) (Operand.tmp 231) 44, type := 4, pos := "law.go:37", after := #[{ on := 48, ground := Ground.data }, { on := 49, ground := Ground.data }, { on := 47, ground := Ground.guard }], guard := some (47, true) }) (v := ?v50) rfl (by kernel_rfl) (by kernel_rfl) (by kernel_rfl) (fun _ _ _ h => h) (Or.inl ⟨by rfl, ?y50⟩) hHeld ?r50
          case y50 => (intro w hSw; (try dsimp only at hSw); go_simp; (try with_reducible rfl))
          try simp only [Act.put, List.setIfInBounds_toArray, List.set_cons_zero, List.set_cons_succ]
          refine wpAnyH_take (i := 51) (oi := { dst := some 233, op := Op.pick (Operand.tmp 229) (Operand.tmp 232) (Operand.const (Value.bool false)), type := 4, pos := "law.go:37", after := #[{ on := 47, ground := Ground.data }, { on := 50, ground := Ground.data }], guard := none }) (v := ?v51) rfl (by kernel_rfl) (by kernel_rfl) (by kernel_rfl) (fun _ _ _ h => h) (Or.inl ⟨by rfl, ?y51⟩) hHeld ?r51
          case y51 => (intro w hSw; (try dsimp only at hSw); go_simp; (try with_reducible rfl))
          try simp only [Act.put, List.setIfInBounds_toArray, List.set_cons_zero, List.set_cons_succ]
          refine wpAnyH_take (i := 52) (oi := { dst := some 2, op := Op.assign (Operand.tmp 233), type := 4, pos := "law.go:37", after := #[{ on := 51, ground := Ground.data }, { on := 47, ground := Ground.chain }, { on := 0, ground := Ground.phase }, { on := 1, ground := Ground.phase }, { on := 2, ground := Ground.phase }, { on := 3, ground := Ground.phase }, { on := 4, ground := Ground.phase }, { on := 5, ground := Ground.phase }, { on := 6, ground := Ground.phase }, { on := 7, ground := Ground.phase }, { on := 8, ground := Ground.phase }, { on := 9, ground := Ground.phase }, { on := 10, ground := Ground.phase }, { on := 11, ground := Ground.phase }, { on := 12, ground := Ground.phase }, { on := 13, ground := Ground.phase }, { on := 14, ground := Ground.phase }, { on := 15, ground := Ground.phase }, { on := 16, ground := Ground.phase }, { on := 17, ground := Ground.phase }, { on := 18, ground := Ground.phase }, { on := 19, ground := Ground.phase }, { on := 20, ground := Ground.phase }, { on := 21, ground := Ground.phase }, { on := 22, ground := Ground.phase }, { on := 23, ground := Ground.phase }, { on := 24, ground := Ground.phase }, { on := 25, ground := Ground.phase }, { on := 26, ground := Ground.phase }, { on := 27, ground := Ground.phase }, { on := 28, ground := Ground.phase }, { on := 29, ground := Ground.phase }, { on := 30, ground := Ground.phase }, { on := 31, ground := Ground.phase }, { on := 32, ground := Ground.phase }, { on := 33, ground := Ground.phase }, { on := 34, ground := Ground.phase }, { on := 35, ground := Ground.phase }, { on := 36, ground := Ground.phase }, { on := 37, ground := Ground.phase }, { on := 38, ground := Ground.phase }, { on := 39, ground := Ground.phase }, { on := 40, ground := Ground.phase }, { on := 41, ground := Ground.phase }, { on := 42, ground := Ground.phase }, { on := 43, ground := Ground.phase }, { on := 44, ground := Ground.phase }, { on := 45, ground := Ground.phase }, { on := 46, ground := Ground.phase }, { on := 47, ground := Ground.phase }, { on := 48, ground := Ground.phase }, { on := 49, ground := Ground.phase }, { on := 50, ground := Ground.phase }, { on := 51, ground := Ground.phase }], guard := none }) (v := ?v52) rfl (by kernel_rfl) (by kernel_rfl) (by kernel_rfl) (fun _ _ _ h => h) (Or.inl ⟨by rfl, ?y52⟩) hHeld ?r52
          case y52 => (intro w hSw; (try dsimp only at hSw); go_simp; (try with_reducible rfl))
          try simp only [Act.put, List.setIfInBounds_toArray, List.set_cons_zero, List.set_cons_succ]
          refine wpAnyH_done (by kernel_rfl) ?_ _
          go_wp2
          go_ret
          exact ⟨rfl, T9.out.keeps.below (Nat.le_refl _) (by simp)⟩
end Go.Proofs.Ytppidnjhdefbiaa
