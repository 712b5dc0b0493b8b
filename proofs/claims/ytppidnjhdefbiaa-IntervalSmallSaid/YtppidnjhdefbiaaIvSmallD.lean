/- Package interval: the contracts of the law IntervalSmall: its walk, part D. -/
import Derived.Test.YtppidnjhdefbiaaIvSmallInv
import Derived.Deep.RegionHeld3
namespace Go.Proofs.Ytppidnjhdefbiaa
open Go.RowKit
set_option linter.unusedVariables false

set_option maxRecDepth 100000 in
set_option maxHeartbeats 20000000 in
theorem ismall_div (num p q l m n k : Int) (hp : inI p = true) (hq : inI q = true) (hl0 : 0 ≤ l) (hl : l ≤ 255) (hm0 : 0 ≤ m) (hm : m ≤ 255) (hn0 : 0 ≤ n) (hn : n ≤ 255) (hk0 : 0 ≤ k) (hk : k ≤ 255) (w : World) :
    Calls Try.prog 16 #[.int .i64 5, .int .i64 num, .int .i64 p, .int .i64 q, .int .u8 l, .int .u8 m, .int .u8 n, .int .u8 k] w fun e w' => e = .returned (.bool true) ∧ Below w.heap.size w w' := by
  obtain ⟨a, ha'⟩ : ∃ a, smallR p l m = a := ⟨_, rfl⟩
  obtain ⟨b, hb'⟩ : ∃ b, smallR q n k = b := ⟨_, rfl⟩
  have MA : Hid (Mid a) := by subst ha'; exact small_bd p l m
  have MB : Hid (Mid b) := by subst hb'; exact small_bd q n k
  have CA := kept (fun w => smallr_of p l m a ha' hp hl0 hl hm0 hm w)
  have CB := kept (fun w => smallr_of q n k b hb' hq hn0 hn hk0 hk w)
  have ha : a.lo ≤ a.hi := MA.out.2.1
  have hb : b.lo ≤ b.hi := MB.out.2.1
  have bd1 : -9223372036854775808 < a.lo := MA.out.1
  have bd2 : a.hi < 9223372036854775807 := MA.out.2.2
  have bd3 : -9223372036854775808 < b.lo := MB.out.1
  have bd4 : b.hi < 9223372036854775807 := MB.out.2.2
  clear ha' hb' hp hq hl0 hl hm0 hm hn0 hn hk0 hk
  go_enter Try.func16, Try.ntmps16
  go_wp2_with fail
  refine (ivlives _).mono ?_
  rintro e w1 ⟨rfl, k1⟩
  have K1 := kept k1
  clear k1
  go_wp2_with fail
  refine (CA.out _).mono ?_
  rintro e w2 ⟨rfl, k2⟩
  have K2 := kept (K1.out.next k2)
  clear k2
  go_wp2_with fail
  refine (CB.out _).mono ?_
  rintro e w3 ⟨rfl, k3⟩
  have K3 := kept (K2.out.next k3)
  clear k3
  go_wp2_with fail
  refine (lawnone_any _).mono ?_
  rintro e w4 ⟨rfl, k4⟩
  have K4 := kept k4
  clear k4
  go_wp2_with fail
  refine (lawnone_any _).mono ?_
  rintro e w5 ⟨rfl, k5⟩
  have K5 := kept (K4.out.next k5)
  clear k5
  go_wp2_with fail
  refine (lawnone_any _).mono ?_
  rintro e w6 ⟨rfl, k6⟩
  have K6 := kept (K5.out.next k6)
  clear k6
  have sx := SB.start K3.out K6.out
  have SX := kept sx
  clear sx
  obtain ⟨c0, c1, c2, c3, c4, c5, c6, c7, c8, c9⟩ := SX.out.cells
  obtain ⟨f0, f1, f2, f3, f4, f5⟩ := SX.out.free
  go_wp2
  clear c0 c1 c2 c3 c4 c5 c6 c7 c8 c9 f0 f1 f2 f3 f4 f5
  generalize hga : w3.heap.size = ga at *
  generalize hg : w6.heap.size = g at *
  generalize ((w6.alloc (.cells #[.int .i64 1, .int .i64 0] 86)).alloc (.cells #[.int .i64 1, .int .i64 0] 86)).alloc (.cells #[.int .i64 1, .int .i64 0] 86) = W0 at *
  clear hga hg
  go_loopw [22] (fun x wr => ∃ (X : Int) (W T C : Iv.R), a.lo ≤ X ∧ X ≤ a.hi + 1 ∧ x = .int .i64 X ∧ SB w wr ga g a b W T C ∧ SInv 5 a b X b.lo W T ∧ Iv.Hull (SC num a b X) C) (fun x _ => (a.hi + 1 - intOf x).toNat)
  case atStart => exact ⟨a.lo, _, _, _, by omega, by omega, rfl, SX.out, sinv_start 5 a b, sc_start⟩
  case round =>
    obtain ⟨X, W, T, C, hX1, hX2, rfl, hS, hInv, hC⟩ := hrel
    replace SX := kept hS
    have INV := kept hInv
    have HC := kept hC
    clear hS hInv hC
    obtain ⟨c0, c1, c2, c3, c4, c5, c6, c7, c8, c9⟩ := SX.out.cells
    obtain ⟨f0, f1, f2, f3, f4, f5⟩ := SX.out.free
    by_cases hXb : X ≤ a.hi
    · have hXd : decide (X ≤ a.hi) = true := decide_eq_true hXb
      have XI : Hid (inI X = true) := inI_iff.2 ⟨by omega, by omega⟩
      go_wp2
      clear c0 c1 c2 c3 c4 c5 c6 c7 c8 c9 f0 f1 f2 f3 f4 f5
      obtain ⟨wo, rfl⟩ : ∃ wo : World, wo = wr := ⟨_, rfl⟩
      go_loopw [23, 24] (fun lv y wr => ∃ (L : Bool) (Y : Int) (W T : Iv.R), b.lo ≤ Y ∧ Y ≤ b.hi + 1 ∧ y = .int .i64 Y ∧ lv = .bool L ∧ SB w wr ga g a b W T C ∧ SInv 5 a b X Y W T ∧ Lf num b X Y L) (fun _ y _ => (b.hi + 1 - intOf y).toNat)
      case atStart => exact ⟨false, b.lo, _, _, by omega, by omega, rfl, rfl, SX.out, INV.out, lf_start⟩
      case round =>
        obtain ⟨L, Y, W, T, hY1, hY2, rfl, rfl, hS, hInv, hL⟩ := hrel
        replace SX := kept hS
        replace INV := kept hInv
        have HL := kept hL
        clear hS hInv hL
        obtain ⟨c0, c1, c2, c3, c4, c5, c6, c7, c8, c9⟩ := SX.out.cells
        obtain ⟨f0, f1, f2, f3, f4, f5⟩ := SX.out.free
        by_cases hYb : Y ≤ b.hi
        · have hYd : decide (Y ≤ b.hi) = true := decide_eq_true hYb
          cases L
          · rcases Bool.eq_false_or_eq_true (Iv.is num X Y) with hi | hi
            · have LF := kept (show Lf num b X (Y + 1) true by have := lf_step (l := false) hY1 HL.out; rw [hi] at this; simpa using this)
              have CI := kept (fun w => is_of hi w)
              clear hi
              go_wp2_with fail
              refine (CI.out _).mono ?_
              rintro e w' ⟨rfl, rfl⟩
              rcases Bool.eq_false_or_eq_true (Y == 0) with hy | hy
              · have hY0 : Y = 0 := by simpa using hy
                subst hY0
                have INV2 := kept (sinv_div0 hX1 hY1 hYb rfl INV.out)
                clear hy
                go_wp2
                go_roundw
                case rel => exact ⟨true, 0 + 1, _, _, by omega, by omega, by go_num, rfl, SX.out, INV2.out, LF.out⟩
                case measure => simp [intOf]; omega
              · have hY0 : ¬ Y = 0 := by simpa using hy
                have hyn : (Y != 0) = true := by simpa using hY0
                have hq : wrap64 (X.tdiv Y) = X.tdiv Y := qv_in XI.out hY0 (by rw [qf_iff]; unfold Iv.MIN; omega)
                have INV2 := kept (sinv_div hX1 hY1 hYb hY0 (wrap64 (X.tdiv Y)) hq INV.out)
                have CS := kept (fun w => refdiv_any X Y w XI.out hY0)
                have CWT := kept (fun w => with_any W (wrap64 (X.tdiv Y)) w)
                clear hq hY0 hy
                generalize wrap64 (X.tdiv Y) = q at *
                generalize X.tmod Y = m at *
                generalize Iv.addn W q = W2 at *
                go_wp2_with fail
                refine (CS.out _).mono ?_
                rintro e wx ⟨rfl, nq, hd⟩
                have sx := SX.out.next (w' := wx) (by rw [hd]; exact (Keeps.refl _ []).drewN nq)
                clear hd c0 c1 c2 c3 c4 c5 c6 c7 c8 c9 f0 f1 f2 f3 f4 f5
                replace SX := kept sx
                clear sx
                obtain ⟨c0, c1, c2, c3, c4, c5, c6, c7, c8, c9⟩ := SX.out.cells
                obtain ⟨f0, f1, f2, f3, f4, f5⟩ := SX.out.free
                go_wp2_with fail
                refine (CWT.out _).mono ?_
                rintro e wx ⟨rfl, k⟩
                have sx := SX.out.next k
                clear c0 c1 c2 c3 c4 c5 c6 c7 c8 c9 f0 f1 f2 f3 f4 f5
                replace SX := kept sx
                clear k sx
                obtain ⟨c0, c1, c2, c3, c4, c5, c6, c7, c8, c9⟩ := SX.out.cells
                obtain ⟨f0, f1, f2, f3, f4, f5⟩ := SX.out.free
                have SY := kept (SX.out.setW W2)
                go_wp2
                go_roundw
                case rel => exact ⟨true, Y + 1, _, _, by omega, by omega, by go_num, rfl, SY.out, INV2.out, LF.out⟩
                case measure => simp [intOf]; omega
            · have LF := kept (show Lf num b X (Y + 1) false by have := lf_step (l := false) hY1 HL.out; rw [hi] at this; simpa using this)
              have CI := kept (fun w => is_of hi w)
              clear hi
              go_wp2_with fail
              refine (CI.out _).mono ?_
              rintro e w' ⟨rfl, rfl⟩
              rcases Bool.eq_false_or_eq_true (Y == 0) with hy | hy
              · have hY0 : Y = 0 := by simpa using hy
                subst hY0
                have INV2 := kept (sinv_div0 hX1 hY1 hYb rfl INV.out)
                clear hy
                go_wp2
                go_roundw
                case rel => exact ⟨false, 0 + 1, _, _, by omega, by omega, by go_num, rfl, SX.out, INV2.out, LF.out⟩
                case measure => simp [intOf]; omega
              · have hY0 : ¬ Y = 0 := by simpa using hy
                have hyn : (Y != 0) = true := by simpa using hY0
                have hq : wrap64 (X.tdiv Y) = X.tdiv Y := qv_in XI.out hY0 (by rw [qf_iff]; unfold Iv.MIN; omega)
                have INV2 := kept (sinv_div hX1 hY1 hYb hY0 (wrap64 (X.tdiv Y)) hq INV.out)
                have CS := kept (fun w => refdiv_any X Y w XI.out hY0)
                have CWT := kept (fun w => with_any W (wrap64 (X.tdiv Y)) w)
                clear hq hY0 hy
                generalize wrap64 (X.tdiv Y) = q at *
                generalize X.tmod Y = m at *
                generalize Iv.addn W q = W2 at *
                go_wp2_with fail
                refine (CS.out _).mono ?_
                rintro e wx ⟨rfl, nq, hd⟩
                have sx := SX.out.next (w' := wx) (by rw [hd]; exact (Keeps.refl _ []).drewN nq)
                clear hd c0 c1 c2 c3 c4 c5 c6 c7 c8 c9 f0 f1 f2 f3 f4 f5
                replace SX := kept sx
                clear sx
                obtain ⟨c0, c1, c2, c3, c4, c5, c6, c7, c8, c9⟩ := SX.out.cells
                obtain ⟨f0, f1, f2, f3, f4, f5⟩ := SX.out.free
                go_wp2_with fail
                refine (CWT.out _).mono ?_
                rintro e wx ⟨rfl, k⟩
                have sx := SX.out.next k
                clear c0 c1 c2 c3 c4 c5 c6 c7 c8 c9 f0 f1 f2 f3 f4 f5
                replace SX := kept sx
                clear k sx
                obtain ⟨c0, c1, c2, c3, c4, c5, c6, c7, c8, c9⟩ := SX.out.cells
                obtain ⟨f0, f1, f2, f3, f4, f5⟩ := SX.out.free
                have SY := kept (SX.out.setW W2)
                go_wp2
                go_roundw
                case rel => exact ⟨false, Y + 1, _, _, by omega, by omega, by go_num, rfl, SY.out, INV2.out, LF.out⟩
                case measure => simp [intOf]; omega
          · have LF := kept (show Lf num b X (Y + 1) true by have := lf_step (l := true) hY1 HL.out; simpa using this)
            rcases Bool.eq_false_or_eq_true (Y == 0) with hy | hy
            · have hY0 : Y = 0 := by simpa using hy
              subst hY0
              have INV2 := kept (sinv_div0 hX1 hY1 hYb rfl INV.out)
              clear hy
              go_wp2
              go_roundw
              case rel => exact ⟨true, 0 + 1, _, _, by omega, by omega, by go_num, rfl, SX.out, INV2.out, LF.out⟩
              case measure => simp [intOf]; omega
            · have hY0 : ¬ Y = 0 := by simpa using hy
              have hyn : (Y != 0) = true := by simpa using hY0
              have hq : wrap64 (X.tdiv Y) = X.tdiv Y := qv_in XI.out hY0 (by rw [qf_iff]; unfold Iv.MIN; omega)
              have INV2 := kept (sinv_div hX1 hY1 hYb hY0 (wrap64 (X.tdiv Y)) hq INV.out)
              have CS := kept (fun w => refdiv_any X Y w XI.out hY0)
              have CWT := kept (fun w => with_any W (wrap64 (X.tdiv Y)) w)
              clear hq hY0 hy
              generalize wrap64 (X.tdiv Y) = q at *
              generalize X.tmod Y = m at *
              generalize Iv.addn W q = W2 at *
              go_wp2_with fail
              refine (CS.out _).mono ?_
              rintro e wx ⟨rfl, nq, hd⟩
              have sx := SX.out.next (w' := wx) (by rw [hd]; exact (Keeps.refl _ []).drewN nq)
              clear hd c0 c1 c2 c3 c4 c5 c6 c7 c8 c9 f0 f1 f2 f3 f4 f5
              replace SX := kept sx
              clear sx
              obtain ⟨c0, c1, c2, c3, c4, c5, c6, c7, c8, c9⟩ := SX.out.cells
              obtain ⟨f0, f1, f2, f3, f4, f5⟩ := SX.out.free
              go_wp2_with fail
              refine (CWT.out _).mono ?_
              rintro e wx ⟨rfl, k⟩
              have sx := SX.out.next k
              clear c0 c1 c2 c3 c4 c5 c6 c7 c8 c9 f0 f1 f2 f3 f4 f5
              replace SX := kept sx
              clear k sx
              obtain ⟨c0, c1, c2, c3, c4, c5, c6, c7, c8, c9⟩ := SX.out.cells
              obtain ⟨f0, f1, f2, f3, f4, f5⟩ := SX.out.free
              have SY := kept (SX.out.setW W2)
              go_wp2
              go_roundw
              case rel => exact ⟨true, Y + 1, _, _, by omega, by omega, by go_num, rfl, SY.out, INV2.out, LF.out⟩
              case measure => simp [intOf]; omega
        · obtain rfl : Y = b.hi + 1 := by omega
          have INV2 := kept (sinv_next INV.out)
          cases L
          · have SC2 := kept (sc_no (hl := HL.out) HC.out)
            go_wp2
            go_roundw
            case rel => exact ⟨X + 1, _, _, _, by omega, by omega, by go_num, SX.out, INV2.out, SC2.out⟩
            case measure => simp [intOf]; omega
          · have SC2 := kept (sc_yes hX1 HL.out HC.out)
            have CWC := kept (fun w => with_any C X w)
            generalize Iv.addn C X = C2 at *
            go_wp2_with fail
            refine (CWC.out _).mono ?_
            rintro e wx ⟨rfl, k⟩
            have sx := SX.out.next k
            clear c0 c1 c2 c3 c4 c5 c6 c7 c8 c9 f0 f1 f2 f3 f4 f5
            replace SX := kept sx
            clear k sx
            obtain ⟨c0, c1, c2, c3, c4, c5, c6, c7, c8, c9⟩ := SX.out.cells
            obtain ⟨f0, f1, f2, f3, f4, f5⟩ := SX.out.free
            have SY := kept (SX.out.setC C2)
            go_wp2
            go_roundw
            case rel => exact ⟨X + 1, _, _, _, by omega, by omega, by go_num, SY.out, INV2.out, SC2.out⟩
            case measure => simp [intOf]; omega
    · obtain rfl : X = a.hi + 1 := by omega
      have CT := kept (fun w => apply_of (sinv_quot ha hb (by unfold Iv.MIN; exact MA.out.1) (by unfold Iv.MIN; have := MB.out; unfold Mid at this; omega) (by unfold Iv.MAX; have := MB.out; unfold Mid at this; omega) INV.out) (mid_wf MA.out) (mid_wf MB.out) w)
      have CC := kept (fun w => cut_of (sc_cut ha hb (by unfold Iv.MIN; have := MA.out; unfold Mid at this; omega) (by unfold Iv.MAX; have := MA.out; unfold Mid at this; omega) HC.out) (mid_wf MA.out) (mid_wf MB.out) w)
      clear f0 f1 f2 f3 f4 f5
      go_wp2
      go_region_held3 (fun w' => w'.cell? ⟨ga, 0, none⟩ = some (.int .i64 a.lo) ∧ w'.cell? ⟨ga, 1, none⟩ = some (.int .i64 a.hi) ∧ w'.cell? ⟨ga + 1, 0, none⟩ = some (.int .i64 b.lo) ∧ w'.cell? ⟨ga + 1, 1, none⟩ = some (.int .i64 b.hi) ∧ w'.cell? ⟨g, 0, none⟩ = some (.int .i64 W.lo) ∧ w'.cell? ⟨g, 1, none⟩ = some (.int .i64 W.hi)) (go_keep) (first | (go_at_call 78; (with_reducible refine (CT.out _).mono ?_); rintro e wx ⟨rfl, k⟩; have sx := SX.out.later k (by first | exact Keeps.refl _ [] | exact (Keeps.refl _ []).drew); obtain ⟨c0, c1, c2, c3, c4, c5, c6, c7, c8, c9⟩ := sx.cells; have SX := kept sx; clear k sx))
      go_wp2
      go_region_held3 (fun w' => w'.cell? ⟨ga, 0, none⟩ = some (.int .i64 a.lo) ∧ w'.cell? ⟨ga, 1, none⟩ = some (.int .i64 a.hi) ∧ w'.cell? ⟨ga + 1, 0, none⟩ = some (.int .i64 b.lo) ∧ w'.cell? ⟨ga + 1, 1, none⟩ = some (.int .i64 b.hi) ∧ w'.cell? ⟨g + 1 + 1, 0, none⟩ = some (.int .i64 C.lo) ∧ w'.cell? ⟨g + 1 + 1, 1, none⟩ = some (.int .i64 C.hi)) (go_keep) (first | (go_at_call 79; (with_reducible refine (CC.out _).mono ?_); rintro e wx ⟨rfl, k⟩; have sx := SX.out.later k (by first | exact Keeps.refl _ [] | exact (Keeps.refl _ []).drew); obtain ⟨c0, c1, c2, c3, c4, c5, c6, c7, c8, c9⟩ := sx.cells; have SX := kept sx; clear k sx))
      go_wp2
      go_ret
      exact ⟨by simp, bel_of SX.out.keeps⟩
end Go.Proofs.Ytppidnjhdefbiaa
