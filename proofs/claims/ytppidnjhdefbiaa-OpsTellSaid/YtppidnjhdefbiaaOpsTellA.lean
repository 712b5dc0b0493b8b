/- Package ops: the law OpsTell, the operations: the head. -/
import Derived.Test.YtppidnjhdefbiaaOpsTellBase
import Derived.Deep.RegionHeld3
import Derived.Deep.Cut
import Derived.Deep.CutRange
namespace Go.Proofs.Ytppidnjhdefbiaa
open Go.RowKit
set_option linter.unusedVariables false
set_option linter.unusedSimpArgs false
theorem quiet_o {P : Program} {f : FuncId} {args : Array Value} {w : World} {n : Nat} {v : Value}
    (h : Calls P f args (w.drewN n) fun e w' => e = .returned v ∧ w.drewN n = w') : Calls P f args (w.drewN n) fun e w'' => e = .returned v ∧ ∃ m, w'' = w.drewN m :=
  h.mono fun _ _ ⟨he, hm⟩ => ⟨he, n, hm.symm⟩
/-- what lies from region 9 on -/
structure TB (w W : World) (g7 : Nat) (x y z : ByteArray) (va : Option Addr) (vc : Nat) : Prop where
  keeps : Keeps w W []
  blk : Blk W g7 50 #[.string x, .string y, .string z]
  own : W.ownsRow 0 51 1 (.slice va y.size vc) y.size (tcells y y.size)
theorem TB.next {w W W' : World} {g7 vc : Nat} {x y z : ByteArray} {va : Option Addr} (h : TB w W g7 x y z va vc) (k : Keeps W W' []) : TB w W' g7 x y z va vc :=
  ⟨by simpa using h.keeps.trans k, h.blk.keep k (by simp), own_keep h.own k (by simp)⟩
theorem TB.later {w W W0 W' : World} {g7 vc : Nat} {x y z : ByteArray} {va : Option Addr} (h : TB w W g7 x y z va vc) (k : Keeps W0 W' []) (e : Keeps W W0 []) : TB w W' g7 x y z va vc := (h.next e).next k
theorem own_cell {w : World} {base n vc j : Nat} {e : TypeId} {va : Option Addr} {xs : List Value} (h : w.ownsRow base e 1 (.slice va n vc) n xs) (hj : j < n) : ∃ g, va = some ⟨g, 0, none⟩ ∧ w.cell? ⟨g, j, none⟩ = xs[j]? := by
  rcases h.2 with ⟨h1, h2⟩ | ⟨g, cap, cur, h1, _, h3, h4, h5, h6, h7⟩
  · omega
  · cases h1
    refine ⟨g, rfl, ?_⟩
    rw [cell_of_row w g j cur e (0, 0) h3, ← h7, List.getElem?_take, if_pos (by omega), Array.getElem?_toList]
theorem tcells_at {s : ByteArray} {j : Nat} (h : j < s.size) : (tcells s s.size)[j]? = some (.int .i64 (tsign (s[j]'h).toNat)) := by
  unfold tcells
  have h' : j < s.data.toList.length := by rw [Array.length_toList]; exact h
  rw [List.take_of_length_le (show s.data.toList.length ≤ s.size from Nat.le_of_eq Array.length_toList), List.getElem?_map, List.getElem?_eq_getElem h']
  rfl
theorem TB.cells {w W : World} {g7 vc : Nat} {x y z : ByteArray} {va : Option Addr} (h : TB w W g7 x y z va vc) : W.cell? ⟨g7, 0, none⟩ = some (.string x) ∧ W.cell? ⟨g7, 1, none⟩ = some (.string y) ∧ W.cell? ⟨g7, 2, none⟩ = some (.string z) :=
  ⟨h.blk.cell 0, h.blk.cell 1, h.blk.cell 2⟩

set_option maxRecDepth 100000 in
set_option maxHeartbeats 8000000 in
theorem tell_a (k : Nat) (hk : k < 27) (hk0 : k ≠ 0) (x y : ByteArray) (c : UInt8) (hc : c.toNat < 128) (hx : kword k = x) (hy : ktakes k = y) (hz : kmakes k = ⟨#[c]⟩) (hys : y.size ≤ 100) (hya : ∀ j (hj : j < y.size), (y[j]'hj).toNat < 128) (w : World) :
    Calls Try.prog 12 #[.int .i64 k] w fun e w' => e = .returned (.bool true) ∧ Below w.heap.size w w' := by
  have hof := of_yes k hk
  rw [hx, hy, hz] at hof
  have CT := kept (takes_any k x ⟨#[c]⟩ y hys hya hof)
  have CM := kept (makes_some k x y c hc hof)
  have CW := kept (word_yes k hk)
  rw [hx] at CW
  have CF := kept (show ∀ w, Calls Try.prog 54 #[.int .u8 (((⟨#[c]⟩ : ByteArray)[0]'(Nat.zero_lt_one)).toNat : Int)] w fun e w' => e = .returned (.int .i64 (tsign c.toNat)) ∧ w = w' from fun w => reftype_any c.toNat w)
  obtain ⟨e0, e1, e2⟩ := kcell k hk
  rw [hx] at e0
  rw [hy] at e1
  rw [hz] at e2
  have E0 := kept e0
  have E1 := kept e1
  have E2 := kept e2
  clear e0 e1 e2 hof hz
  obtain ⟨T, hT⟩ : ∃ T, (if chkB k = true then (k : Int) - 17 else 0) = T := ⟨_, rfl⟩
  obtain ⟨R, hR⟩ : ∃ T, rawB k = T := ⟨_, rfl⟩
  obtain ⟨P, hP⟩ : ∃ T, pureB k = T := ⟨_, rfl⟩
  obtain ⟨C, hC⟩ : ∃ T, chkB k = T := ⟨_, rfl⟩
  have f18 := cls18 k hk
  have f19 := cls19 k hk
  have f21 := cls21 k hk
  have fc := chk_pos k C hC
  have CK := kept (fun w => refcheck_any k w (by unfold inI; simp; omega))
  have CX := kept (fun w => trap_any k w (by unfold inI; simp; omega))
  have CO := kept (of_word k hk)
  have CC := kept (check_any k)
  have CR := kept (raw_any k)
  have CP := kept (pure_yes k hk)
  have CA := kept (any_any k)
  have CN := kept (numbered_any k)
  simp only [hT] at CK CX fc
  simp only [hR] at f18 CR
  simp only [hP] at f19 CP
  simp only [hC] at f19 CC
  simp only [hx] at f18 f19 f21 CO
  simp only [← to_data] at f18 f19 f21
  have F18 := kept f18
  have F19 := kept f19
  have F21 := kept f21
  have FC := kept fc
  clear f18 f19 f21 fc hT hR hP hC hx
  have HY := kept hy
  have HYA := kept hya
  clear hy hya
  go_enter Try.func12, Try.ntmps12
  go_wp2_with fail
  refine (opslives _).mono ?_
  rintro e w1 ⟨rfl, k1⟩
  go_wp2_with fail
  refine (rows_any _).mono ?_
  rintro e w2 ⟨rfl, hw2⟩
  have K2 := kept (show Keeps w w2 [] by rw [hw2]; exact Keeps.alloc k1 _)
  have B2 := kept (show Blk w2 w1.heap.size 50 kcells by rw [hw2]; exact Blk.new _ _ _)
  clear hw2 k1
  generalize w1.heap.size = g0 at *
  go_wp2_with fail
  refine (CT.out _).mono ?_
  rintro e w3 ⟨v, rfl, ho, k3⟩
  obtain ⟨va, vc, rfl, hvc⟩ := own_form ho
  have K3 := kept (K2.out.trans k3)
  have B3 := kept (B2.out.keep k3 (by simp))
  have O3 := kept (own_low ho (Nat.zero_le _))
  clear K2 B2 k3 ho
  simp only [List.append_nil] at K3
  go_wp2_with fail
  refine (CM.out _).mono ?_
  rintro e w4 ⟨rfl, k4⟩
  have K4 := kept (K3.out.trans k4)
  have B4 := kept (B3.out.keep k4 (by simp))
  have O4 := kept (own_keep O3.out k4 (by simp))
  clear K3 k4 O3 B3
  have c0 := B4.out.cell (k * 3)
  have c1 := B4.out.cell (k * 3 + 1)
  have c2 := B4.out.cell (k * 3 + 2)
  rw [E0.out] at c0
  rw [E1.out] at c1
  rw [E2.out] at c2
  go_wp2_with fail
  clear c0 c1 c2 E0 E1 E2 CT CM
  have T7 : Hid (TB w (w4.alloc (.cells #[.string x, .string y, .string ⟨#[c]⟩] 50)) w4.heap.size x y ⟨#[c]⟩ va vc) :=
    ⟨K4.out.alloc _, Blk.new _ _ _, own_keep O4.out ((Keeps.refl _ []).alloc _) (by simp)⟩
  clear K4 O4 B4
  generalize w4.alloc (.cells #[.string x, .string y, .string ⟨#[c]⟩] 50) = W7 at *
  generalize w4.heap.size = g7 at *
  obtain ⟨c0, c1, c2⟩ := T7.out.cells
  go_region_held3 (fun w' => w'.cell? ⟨g7, 0, none⟩ = some (.string x) ∧ w'.cell? ⟨g7, 1, none⟩ = some (.string y) ∧ w'.cell? ⟨g7, 2, none⟩ = some (.string ⟨#[c]⟩)) (go_keep) (first | (go_at_call 47; (with_reducible refine (CW.out _).mono ?_); rintro e wx ⟨rfl, k⟩; have tx := T7.out.later k (by first | exact Keeps.refl _ [] | exact (Keeps.refl _ []).drew); obtain ⟨c0, c1, c2⟩ := tx.cells; have T7 := kept tx; clear k tx) | (go_at_call 54; (with_reducible refine (CF.out _).mono ?_); rintro e wx ⟨rfl, rfl⟩))
  go_wp2
  go_loopw [115] (fun i wr => ∃ j : Nat, j ≤ y.size ∧ i = .int .i64 j ∧ TB w wr g7 x y ⟨#[c]⟩ va vc) (fun i _ => y.size - (intOf i).toNat)
  case atStart => exact ⟨0, by omega, rfl, T7.out⟩
  case round =>
    obtain ⟨j, hj, rfl, hT⟩ := hrel
    have T7 := kept hT
    clear hT
    by_cases hlt : j < y.size
    · obtain ⟨g, rfl, ct⟩ := own_cell T7.out.own hlt
      rw [tcells_at hlt] at ct
      obtain ⟨c0, c1, c2⟩ := T7.out.cells
      have CJ := kept (fun w => reftype_any (y[j]'hlt).toNat w)
      go_wp2
      go_quiet ((go_at_call 54; exact quiet_o (CJ.out _)))
      have T8 : Hid (TB w (wr.drewN nq) g7 x y ⟨#[c]⟩ (some ⟨g, 0, none⟩) vc) := T7.out.next ((Keeps.refl wr []).drewN nq)
      go_wp2
      go_roundw
      case rel => exact ⟨j + 1, by omega, by go_num, T8.out⟩
      case measure => simp [intOf]; omega
    · obtain rfl : j = y.size := by omega
      clear hj hlt
      obtain ⟨c0, c1, c2⟩ := T7.out.cells
      go_wp2_with fail
      refine (CK.out _).mono ?_
      rintro e wa ⟨rfl, rfl⟩
      go_upto_region 18 with (fail)
      go_cut [10] from 131 to 158 (fun t10 wx => t10 = .bool R ∧ wx = wr)
      case first =>
        rcases Bool.eq_false_or_eq_true (x.toList == [100, 105, 118]) with h_div | h_div
        · go_wp2
          go_meet
          exact ⟨congrArg Value.bool (by rw [← F18.out]; simp [h_div]), rfl⟩
        rcases Bool.eq_false_or_eq_true (x.toList == [114, 101, 109]) with h_rem | h_rem
        · go_wp2
          go_meet
          exact ⟨congrArg Value.bool (by rw [← F18.out]; simp [h_div, h_rem]), rfl⟩
        rcases Bool.eq_false_or_eq_true (x.toList == [108, 101, 110]) with h_len | h_len
        · go_wp2
          go_meet
          exact ⟨congrArg Value.bool (by rw [← F18.out]; simp [h_div, h_rem, h_len]), rfl⟩
        rcases Bool.eq_false_or_eq_true (x.toList == [108, 111, 97, 100]) with h_load | h_load
        · go_wp2
          go_meet
          exact ⟨congrArg Value.bool (by rw [← F18.out]; simp [h_div, h_rem, h_len, h_load]), rfl⟩
        rcases Bool.eq_false_or_eq_true (x.toList == [115, 116, 111, 114, 101]) with h_store | h_store
        · go_wp2
          go_meet
          exact ⟨congrArg Value.bool (by rw [← F18.out]; simp [h_div, h_rem, h_len, h_load, h_store]), rfl⟩
        rcases Bool.eq_false_or_eq_true (x.toList == [110, 101, 119]) with h_new | h_new
        · go_wp2
          go_meet
          exact ⟨congrArg Value.bool (by rw [← F18.out]; simp [h_div, h_rem, h_len, h_load, h_store, h_new]), rfl⟩
        go_wp2
        go_meet
        exact ⟨congrArg Value.bool (by rw [← F18.out]; simp [h_div, h_rem, h_len, h_load, h_store, h_new]), rfl⟩
      case rest =>
        obtain ⟨rfl, rfl⟩ := hcut
        go_upto_region 19 with (fail)
        go_cut [11] from 159 to 175 (fun t11 wx => t11 = .bool (!P) ∧ wx = wc)
        case first =>
          cases C
          · have fc := FC.out
            rcases Bool.eq_false_or_eq_true (x.toList == [115, 116, 111, 114, 101]) with h_store | h_store
            · go_wp2
              go_meet
              exact ⟨congrArg Value.bool (by rw [← F19.out]; simp [h_store]), rfl⟩
            rcases Bool.eq_false_or_eq_true (x.toList == [111, 117, 116]) with h_out | h_out
            · go_wp2
              go_meet
              exact ⟨congrArg Value.bool (by rw [← F19.out]; simp [h_store, h_out]), rfl⟩
            rcases Bool.eq_false_or_eq_true (x.toList == [110, 101, 119]) with h_new | h_new
            · go_wp2
              go_meet
              exact ⟨congrArg Value.bool (by rw [← F19.out]; simp [h_store, h_out, h_new]), rfl⟩
            go_wp2
            go_meet
            exact ⟨congrArg Value.bool (by rw [← F19.out]; simp [h_store, h_out, h_new]), rfl⟩
          · have fc := FC.out
            go_wp2
            go_meet
            exact ⟨congrArg Value.bool (by rw [← F19.out]; simp [fc]), rfl⟩
        case rest =>
          obtain ⟨rfl, rfl⟩ := hcut
          go_wp2_with fail
          refine (CO.out _).mono ?_
          rintro e w5 ⟨rfl, k5⟩
          have T9 := kept (T7.out.next k5)
          clear T7 c0 c1 c2 k5
          obtain ⟨c0, c1, c2⟩ := T9.out.cells
          obtain ⟨fcopy, fconst, fpi⟩ := F21.out
          have e0 : ((k : Int) == 0) = false := by simp; omega
          rw [e0] at fconst
          simp only [e0, Bool.false_or] at CN
          generalize ((k : Int) == 1) = b1 at *
          generalize ((k : Int) == 25) = b2 at *
          have fc := FC.out
          go_wp2
          go_region_held3 (fun w' => w'.cell? ⟨g7, 0, none⟩ = some (.string x)) (first | exact c0 | go_keep) (first | (go_at_call 53; (with_reducible refine (CX.out _).mono ?_); rintro e wx ⟨rfl, rfl⟩) | (go_at_call 50; (with_reducible refine (CC.out _).mono ?_); rintro e wx ⟨rfl, rfl⟩) | (go_at_call 51; (with_reducible refine (CR.out _).mono ?_); rintro e wx ⟨rfl, k⟩; have tx := T9.out.later k (by first | exact Keeps.refl _ [] | exact (Keeps.refl _ []).drew); obtain ⟨c0, c1, c2⟩ := tx.cells; have T9 := kept tx; clear k tx) | (go_at_call 52; (with_reducible refine (CP.out _).mono ?_); rintro e wx ⟨rfl, rfl⟩) | (go_at_call 48; (with_reducible refine (CA.out _).mono ?_); rintro e wx ⟨rfl, rfl⟩) | (go_at_call 49; (with_reducible refine (CN.out _).mono ?_); rintro e wx ⟨rfl, rfl⟩))
          go_wp2
          go_ret
          exact ⟨rfl, T9.out.keeps.below (Nat.le_refl _) (by simp)⟩
end Go.Proofs.Ytppidnjhdefbiaa
