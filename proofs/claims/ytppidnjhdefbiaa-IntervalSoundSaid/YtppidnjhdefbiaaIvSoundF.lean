/- Package interval: the contracts of the law IntervalSound: its walk, part F. -/
import Derived.Test.YtppidnjhdefbiaaIvSoundHead
namespace Go.Proofs.Ytppidnjhdefbiaa
open Go.RowKit
set_option linter.unusedVariables false

set_option maxRecDepth 100000 in
set_option maxHeartbeats 8000000 in
theorem isound_eq (num x y : Int) (a b : Iv.R) (wa : Iv.Wf a) (wb : Iv.Wf b) (h1 : a.lo ≤ x) (h2 : x ≤ a.hi) (h3 : b.lo ≤ y) (h4 : y ≤ b.hi) (w : World) :
    Calls Try.prog 17 #[.int .i64 7, .agg #[.int .i64 a.lo, .int .i64 a.hi], .agg #[.int .i64 b.lo, .int .i64 b.hi], .int .i64 x, .int .i64 y, .int .i64 num] w fun e w' => e = .returned (.bool true) ∧ Below w.heap.size w w' := by
  obtain ⟨c, hc⟩ : ∃ c, Iv.cut num a b = c := ⟨_, rfl⟩
  have hcs := Iv.cut_sound num wa h1 h2 h3 h4
  rw [hc] at hcs
  have CC := kept (fun w => cut_of hc wa wb w)
  obtain ⟨r, hr⟩ : ∃ r, Iv.truth 7 a b = r := ⟨_, rfl⟩
  have hap := Iv.truth_sound (op := 7) (by omega) h1 h2 h3 h4
  rw [hr] at hap
  have CA := kept (fun w => truth_of hr w)
  obtain ⟨v, hv⟩ : ∃ v, Iv.so 7 x y = v := ⟨_, rfl⟩
  rw [hv] at hap
  have CS := kept (fun w => so_of hv w)
  have CAH := kept (fun w => has_of hap w)
  clear hr hap hc wa wb hv
  cases v
  · go_enter Try.func17, Try.ntmps17
    go_wp2_with fail
    refine (ivlives _).mono ?_
    rintro e w1 ⟨rfl, k⟩
    have BX1 := kept (Box2.start k)
    clear k
    obtain ⟨u0, u1, v0, v1⟩ := BX1.out.cells
    go_wp2_with fail
    refine (CS.out _).mono ?_
    rintro e w' ⟨rfl, rfl⟩
    go_wp2_with fail
    refine (CA.out _).mono ?_
    rintro e w2 ⟨rfl, k⟩
    have BX2 := kept (BX1.out.next k)
    clear k u0 u1 v0 v1
    obtain ⟨u0, u1, v0, v1⟩ := BX2.out.cells
    go_wp2_with fail
    refine (CAH.out _).mono ?_
    rintro e w3 ⟨rfl, k⟩
    have BX3 := kept (BX2.out.next k)
    clear k u0 u1 v0 v1
    obtain ⟨u0, u1, v0, v1⟩ := BX3.out.cells
    rcases Bool.eq_false_or_eq_true (Iv.has c x) with hx | hx
    · have CH := kept (fun w => has_of hx w)
      clear hx hcs
      go_wp2_with fail
      refine (CC.out _).mono ?_
      rintro e w4 ⟨rfl, k⟩
      have BX4 := kept (BX3.out.next k)
      clear k u0 u1 v0 v1
      obtain ⟨u0, u1, v0, v1⟩ := BX4.out.cells
      go_wp2_with fail
      refine (CH.out _).mono ?_
      rintro e w5 ⟨rfl, k⟩
      have BX5 := kept (BX4.out.next k)
      clear k u0 u1 v0 v1
      obtain ⟨u0, u1, v0, v1⟩ := BX5.out.cells
      go_wp2
      go_ret
      exact ⟨rfl, bel_of BX5.out.keeps⟩
    · have CI := kept (fun w => is_of (show Iv.is num x y = false by rw [hx] at hcs; simpa using hcs) w)
      have CH := kept (fun w => has_of hx w)
      clear hx hcs
      go_wp2_with fail
      refine (CC.out _).mono ?_
      rintro e w4 ⟨rfl, k⟩
      have BX4 := kept (BX3.out.next k)
      clear k u0 u1 v0 v1
      obtain ⟨u0, u1, v0, v1⟩ := BX4.out.cells
      go_wp2_with fail
      refine (CH.out _).mono ?_
      rintro e w5 ⟨rfl, k⟩
      have BX5 := kept (BX4.out.next k)
      clear k u0 u1 v0 v1
      obtain ⟨u0, u1, v0, v1⟩ := BX5.out.cells
      go_wp2_with fail
      refine (CI.out _).mono ?_
      rintro e w' ⟨rfl, rfl⟩
      go_wp2
      go_ret
      exact ⟨rfl, bel_of BX5.out.keeps⟩
  · go_enter Try.func17, Try.ntmps17
    go_wp2_with fail
    refine (ivlives _).mono ?_
    rintro e w1 ⟨rfl, k⟩
    have BX1 := kept (Box2.start k)
    clear k
    obtain ⟨u0, u1, v0, v1⟩ := BX1.out.cells
    go_wp2_with fail
    refine (CS.out _).mono ?_
    rintro e w' ⟨rfl, rfl⟩
    go_wp2_with fail
    refine (CA.out _).mono ?_
    rintro e w2 ⟨rfl, k⟩
    have BX2 := kept (BX1.out.next k)
    clear k u0 u1 v0 v1
    obtain ⟨u0, u1, v0, v1⟩ := BX2.out.cells
    go_wp2_with fail
    refine (CAH.out _).mono ?_
    rintro e w3 ⟨rfl, k⟩
    have BX3 := kept (BX2.out.next k)
    clear k u0 u1 v0 v1
    obtain ⟨u0, u1, v0, v1⟩ := BX3.out.cells
    rcases Bool.eq_false_or_eq_true (Iv.has c x) with hx | hx
    · have CH := kept (fun w => has_of hx w)
      clear hx hcs
      go_wp2_with fail
      refine (CC.out _).mono ?_
      rintro e w4 ⟨rfl, k⟩
      have BX4 := kept (BX3.out.next k)
      clear k u0 u1 v0 v1
      obtain ⟨u0, u1, v0, v1⟩ := BX4.out.cells
      go_wp2_with fail
      refine (CH.out _).mono ?_
      rintro e w5 ⟨rfl, k⟩
      have BX5 := kept (BX4.out.next k)
      clear k u0 u1 v0 v1
      obtain ⟨u0, u1, v0, v1⟩ := BX5.out.cells
      go_wp2
      go_ret
      exact ⟨rfl, bel_of BX5.out.keeps⟩
    · have CI := kept (fun w => is_of (show Iv.is num x y = false by rw [hx] at hcs; simpa using hcs) w)
      have CH := kept (fun w => has_of hx w)
      clear hx hcs
      go_wp2_with fail
      refine (CC.out _).mono ?_
      rintro e w4 ⟨rfl, k⟩
      have BX4 := kept (BX3.out.next k)
      clear k u0 u1 v0 v1
      obtain ⟨u0, u1, v0, v1⟩ := BX4.out.cells
      go_wp2_with fail
      refine (CH.out _).mono ?_
      rintro e w5 ⟨rfl, k⟩
      have BX5 := kept (BX4.out.next k)
      clear k u0 u1 v0 v1
      obtain ⟨u0, u1, v0, v1⟩ := BX5.out.cells
      go_wp2_with fail
      refine (CI.out _).mono ?_
      rintro e w' ⟨rfl, rfl⟩
      go_wp2
      go_ret
      exact ⟨rfl, bel_of BX5.out.keeps⟩

set_option maxRecDepth 100000 in
set_option maxHeartbeats 8000000 in
theorem isound_lt (num x y : Int) (a b : Iv.R) (wa : Iv.Wf a) (wb : Iv.Wf b) (h1 : a.lo ≤ x) (h2 : x ≤ a.hi) (h3 : b.lo ≤ y) (h4 : y ≤ b.hi) (w : World) :
    Calls Try.prog 17 #[.int .i64 8, .agg #[.int .i64 a.lo, .int .i64 a.hi], .agg #[.int .i64 b.lo, .int .i64 b.hi], .int .i64 x, .int .i64 y, .int .i64 num] w fun e w' => e = .returned (.bool true) ∧ Below w.heap.size w w' := by
  obtain ⟨c, hc⟩ : ∃ c, Iv.cut num a b = c := ⟨_, rfl⟩
  have hcs := Iv.cut_sound num wa h1 h2 h3 h4
  rw [hc] at hcs
  have CC := kept (fun w => cut_of hc wa wb w)
  obtain ⟨r, hr⟩ : ∃ r, Iv.truth 8 a b = r := ⟨_, rfl⟩
  have hap := Iv.truth_sound (op := 8) (by omega) h1 h2 h3 h4
  rw [hr] at hap
  have CA := kept (fun w => truth_of hr w)
  obtain ⟨v, hv⟩ : ∃ v, Iv.so 8 x y = v := ⟨_, rfl⟩
  rw [hv] at hap
  have CS := kept (fun w => so_of hv w)
  have CAH := kept (fun w => has_of hap w)
  clear hr hap hc wa wb hv
  cases v
  · go_enter Try.func17, Try.ntmps17
    go_wp2_with fail
    refine (ivlives _).mono ?_
    rintro e w1 ⟨rfl, k⟩
    have BX1 := kept (Box2.start k)
    clear k
    obtain ⟨u0, u1, v0, v1⟩ := BX1.out.cells
    go_wp2_with fail
    refine (CS.out _).mono ?_
    rintro e w' ⟨rfl, rfl⟩
    go_wp2_with fail
    refine (CA.out _).mono ?_
    rintro e w2 ⟨rfl, k⟩
    have BX2 := kept (BX1.out.next k)
    clear k u0 u1 v0 v1
    obtain ⟨u0, u1, v0, v1⟩ := BX2.out.cells
    go_wp2_with fail
    refine (CAH.out _).mono ?_
    rintro e w3 ⟨rfl, k⟩
    have BX3 := kept (BX2.out.next k)
    clear k u0 u1 v0 v1
    obtain ⟨u0, u1, v0, v1⟩ := BX3.out.cells
    rcases Bool.eq_false_or_eq_true (Iv.has c x) with hx | hx
    · have CH := kept (fun w => has_of hx w)
      clear hx hcs
      go_wp2_with fail
      refine (CC.out _).mono ?_
      rintro e w4 ⟨rfl, k⟩
      have BX4 := kept (BX3.out.next k)
      clear k u0 u1 v0 v1
      obtain ⟨u0, u1, v0, v1⟩ := BX4.out.cells
      go_wp2_with fail
      refine (CH.out _).mono ?_
      rintro e w5 ⟨rfl, k⟩
      have BX5 := kept (BX4.out.next k)
      clear k u0 u1 v0 v1
      obtain ⟨u0, u1, v0, v1⟩ := BX5.out.cells
      go_wp2
      go_ret
      exact ⟨rfl, bel_of BX5.out.keeps⟩
    · have CI := kept (fun w => is_of (show Iv.is num x y = false by rw [hx] at hcs; simpa using hcs) w)
      have CH := kept (fun w => has_of hx w)
      clear hx hcs
      go_wp2_with fail
      refine (CC.out _).mono ?_
      rintro e w4 ⟨rfl, k⟩
      have BX4 := kept (BX3.out.next k)
      clear k u0 u1 v0 v1
      obtain ⟨u0, u1, v0, v1⟩ := BX4.out.cells
      go_wp2_with fail
      refine (CH.out _).mono ?_
      rintro e w5 ⟨rfl, k⟩
      have BX5 := kept (BX4.out.next k)
      clear k u0 u1 v0 v1
      obtain ⟨u0, u1, v0, v1⟩ := BX5.out.cells
      go_wp2_with fail
      refine (CI.out _).mono ?_
      rintro e w' ⟨rfl, rfl⟩
      go_wp2
      go_ret
      exact ⟨rfl, bel_of BX5.out.keeps⟩
  · go_enter Try.func17, Try.ntmps17
    go_wp2_with fail
    refine (ivlives _).mono ?_
    rintro e w1 ⟨rfl, k⟩
    have BX1 := kept (Box2.start k)
    clear k
    obtain ⟨u0, u1, v0, v1⟩ := BX1.out.cells
    go_wp2_with fail
    refine (CS.out _).mono ?_
    rintro e w' ⟨rfl, rfl⟩
    go_wp2_with fail
    refine (CA.out _).mono ?_
    rintro e w2 ⟨rfl, k⟩
    have BX2 := kept (BX1.out.next k)
    clear k u0 u1 v0 v1
    obtain ⟨u0, u1, v0, v1⟩ := BX2.out.cells
    go_wp2_with fail
    refine (CAH.out _).mono ?_
    rintro e w3 ⟨rfl, k⟩
    have BX3 := kept (BX2.out.next k)
    clear k u0 u1 v0 v1
    obtain ⟨u0, u1, v0, v1⟩ := BX3.out.cells
    rcases Bool.eq_false_or_eq_true (Iv.has c x) with hx | hx
    · have CH := kept (fun w => has_of hx w)
      clear hx hcs
      go_wp2_with fail
      refine (CC.out _).mono ?_
      rintro e w4 ⟨rfl, k⟩
      have BX4 := kept (BX3.out.next k)
      clear k u0 u1 v0 v1
      obtain ⟨u0, u1, v0, v1⟩ := BX4.out.cells
      go_wp2_with fail
      refine (CH.out _).mono ?_
      rintro e w5 ⟨rfl, k⟩
      have BX5 := kept (BX4.out.next k)
      clear k u0 u1 v0 v1
      obtain ⟨u0, u1, v0, v1⟩ := BX5.out.cells
      go_wp2
      go_ret
      exact ⟨rfl, bel_of BX5.out.keeps⟩
    · have CI := kept (fun w => is_of (show Iv.is num x y = false by rw [hx] at hcs; simpa using hcs) w)
      have CH := kept (fun w => has_of hx w)
      clear hx hcs
      go_wp2_with fail
      refine (CC.out _).mono ?_
      rintro e w4 ⟨rfl, k⟩
      have BX4 := kept (BX3.out.next k)
      clear k u0 u1 v0 v1
      obtain ⟨u0, u1, v0, v1⟩ := BX4.out.cells
      go_wp2_with fail
      refine (CH.out _).mono ?_
      rintro e w5 ⟨rfl, k⟩
      have BX5 := kept (BX4.out.next k)
      clear k u0 u1 v0 v1
      obtain ⟨u0, u1, v0, v1⟩ := BX5.out.cells
      go_wp2_with fail
      refine (CI.out _).mono ?_
      rintro e w' ⟨rfl, rfl⟩
      go_wp2
      go_ret
      exact ⟨rfl, bel_of BX5.out.keeps⟩

set_option maxRecDepth 100000 in
set_option maxHeartbeats 8000000 in
theorem isound_le (num x y : Int) (a b : Iv.R) (wa : Iv.Wf a) (wb : Iv.Wf b) (h1 : a.lo ≤ x) (h2 : x ≤ a.hi) (h3 : b.lo ≤ y) (h4 : y ≤ b.hi) (w : World) :
    Calls Try.prog 17 #[.int .i64 9, .agg #[.int .i64 a.lo, .int .i64 a.hi], .agg #[.int .i64 b.lo, .int .i64 b.hi], .int .i64 x, .int .i64 y, .int .i64 num] w fun e w' => e = .returned (.bool true) ∧ Below w.heap.size w w' := by
  obtain ⟨c, hc⟩ : ∃ c, Iv.cut num a b = c := ⟨_, rfl⟩
  have hcs := Iv.cut_sound num wa h1 h2 h3 h4
  rw [hc] at hcs
  have CC := kept (fun w => cut_of hc wa wb w)
  obtain ⟨r, hr⟩ : ∃ r, Iv.truth 9 a b = r := ⟨_, rfl⟩
  have hap := Iv.truth_sound (op := 9) (by omega) h1 h2 h3 h4
  rw [hr] at hap
  have CA := kept (fun w => truth_of hr w)
  obtain ⟨v, hv⟩ : ∃ v, Iv.so 9 x y = v := ⟨_, rfl⟩
  rw [hv] at hap
  have CS := kept (fun w => so_of hv w)
  have CAH := kept (fun w => has_of hap w)
  clear hr hap hc wa wb hv
  cases v
  · go_enter Try.func17, Try.ntmps17
    go_wp2_with fail
    refine (ivlives _).mono ?_
    rintro e w1 ⟨rfl, k⟩
    have BX1 := kept (Box2.start k)
    clear k
    obtain ⟨u0, u1, v0, v1⟩ := BX1.out.cells
    go_wp2_with fail
    refine (CS.out _).mono ?_
    rintro e w' ⟨rfl, rfl⟩
    go_wp2_with fail
    refine (CA.out _).mono ?_
    rintro e w2 ⟨rfl, k⟩
    have BX2 := kept (BX1.out.next k)
    clear k u0 u1 v0 v1
    obtain ⟨u0, u1, v0, v1⟩ := BX2.out.cells
    go_wp2_with fail
    refine (CAH.out _).mono ?_
    rintro e w3 ⟨rfl, k⟩
    have BX3 := kept (BX2.out.next k)
    clear k u0 u1 v0 v1
    obtain ⟨u0, u1, v0, v1⟩ := BX3.out.cells
    rcases Bool.eq_false_or_eq_true (Iv.has c x) with hx | hx
    · have CH := kept (fun w => has_of hx w)
      clear hx hcs
      go_wp2_with fail
      refine (CC.out _).mono ?_
      rintro e w4 ⟨rfl, k⟩
      have BX4 := kept (BX3.out.next k)
      clear k u0 u1 v0 v1
      obtain ⟨u0, u1, v0, v1⟩ := BX4.out.cells
      go_wp2_with fail
      refine (CH.out _).mono ?_
      rintro e w5 ⟨rfl, k⟩
      have BX5 := kept (BX4.out.next k)
      clear k u0 u1 v0 v1
      obtain ⟨u0, u1, v0, v1⟩ := BX5.out.cells
      go_wp2
      go_ret
      exact ⟨rfl, bel_of BX5.out.keeps⟩
    · have CI := kept (fun w => is_of (show Iv.is num x y = false by rw [hx] at hcs; simpa using hcs) w)
      have CH := kept (fun w => has_of hx w)
      clear hx hcs
      go_wp2_with fail
      refine (CC.out _).mono ?_
      rintro e w4 ⟨rfl, k⟩
      have BX4 := kept (BX3.out.next k)
      clear k u0 u1 v0 v1
      obtain ⟨u0, u1, v0, v1⟩ := BX4.out.cells
      go_wp2_with fail
      refine (CH.out _).mono ?_
      rintro e w5 ⟨rfl, k⟩
      have BX5 := kept (BX4.out.next k)
      clear k u0 u1 v0 v1
      obtain ⟨u0, u1, v0, v1⟩ := BX5.out.cells
      go_wp2_with fail
      refine (CI.out _).mono ?_
      rintro e w' ⟨rfl, rfl⟩
      go_wp2
      go_ret
      exact ⟨rfl, bel_of BX5.out.keeps⟩
  · go_enter Try.func17, Try.ntmps17
    go_wp2_with fail
    refine (ivlives _).mono ?_
    rintro e w1 ⟨rfl, k⟩
    have BX1 := kept (Box2.start k)
    clear k
    obtain ⟨u0, u1, v0, v1⟩ := BX1.out.cells
    go_wp2_with fail
    refine (CS.out _).mono ?_
    rintro e w' ⟨rfl, rfl⟩
    go_wp2_with fail
    refine (CA.out _).mono ?_
    rintro e w2 ⟨rfl, k⟩
    have BX2 := kept (BX1.out.next k)
    clear k u0 u1 v0 v1
    obtain ⟨u0, u1, v0, v1⟩ := BX2.out.cells
    go_wp2_with fail
    refine (CAH.out _).mono ?_
    rintro e w3 ⟨rfl, k⟩
    have BX3 := kept (BX2.out.next k)
    clear k u0 u1 v0 v1
    obtain ⟨u0, u1, v0, v1⟩ := BX3.out.cells
    rcases Bool.eq_false_or_eq_true (Iv.has c x) with hx | hx
    · have CH := kept (fun w => has_of hx w)
      clear hx hcs
      go_wp2_with fail
      refine (CC.out _).mono ?_
      rintro e w4 ⟨rfl, k⟩
      have BX4 := kept (BX3.out.next k)
      clear k u0 u1 v0 v1
      obtain ⟨u0, u1, v0, v1⟩ := BX4.out.cells
      go_wp2_with fail
      refine (CH.out _).mono ?_
      rintro e w5 ⟨rfl, k⟩
      have BX5 := kept (BX4.out.next k)
      clear k u0 u1 v0 v1
      obtain ⟨u0, u1, v0, v1⟩ := BX5.out.cells
      go_wp2
      go_ret
      exact ⟨rfl, bel_of BX5.out.keeps⟩
    · have CI := kept (fun w => is_of (show Iv.is num x y = false by rw [hx] at hcs; simpa using hcs) w)
      have CH := kept (fun w => has_of hx w)
      clear hx hcs
      go_wp2_with fail
      refine (CC.out _).mono ?_
      rintro e w4 ⟨rfl, k⟩
      have BX4 := kept (BX3.out.next k)
      clear k u0 u1 v0 v1
      obtain ⟨u0, u1, v0, v1⟩ := BX4.out.cells
      go_wp2_with fail
      refine (CH.out _).mono ?_
      rintro e w5 ⟨rfl, k⟩
      have BX5 := kept (BX4.out.next k)
      clear k u0 u1 v0 v1
      obtain ⟨u0, u1, v0, v1⟩ := BX5.out.cells
      go_wp2_with fail
      refine (CI.out _).mono ?_
      rintro e w' ⟨rfl, rfl⟩
      go_wp2
      go_ret
      exact ⟨rfl, bel_of BX5.out.keeps⟩
end Go.Proofs.Ytppidnjhdefbiaa
