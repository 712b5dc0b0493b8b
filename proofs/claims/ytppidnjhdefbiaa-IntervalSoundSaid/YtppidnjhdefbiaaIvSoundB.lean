/- Package interval: the contracts of the law IntervalSound: its walk, part B. -/
import Derived.Test.YtppidnjhdefbiaaIvSoundHead
namespace Go.Proofs.Ytppidnjhdefbiaa
open Go.RowKit
set_option linter.unusedVariables false

set_option maxRecDepth 100000 in
set_option maxHeartbeats 8000000 in
theorem isound_add (num x y : Int) (a b : Iv.R) (wa : Iv.Wf a) (wb : Iv.Wf b) (h1 : a.lo ≤ x) (h2 : x ≤ a.hi) (h3 : b.lo ≤ y) (h4 : y ≤ b.hi) (w : World) :
    Calls Try.prog 17 #[.int .i64 2, .agg #[.int .i64 a.lo, .int .i64 a.hi], .agg #[.int .i64 b.lo, .int .i64 b.hi], .int .i64 x, .int .i64 y, .int .i64 num] w fun e w' => e = .returned (.bool true) ∧ Below w.heap.size w w' := by
  obtain ⟨c, hc⟩ : ∃ c, Iv.cut num a b = c := ⟨_, rfl⟩
  have hcs := Iv.cut_sound num wa h1 h2 h3 h4
  rw [hc] at hcs
  have CC := kept (fun w => cut_of hc wa wb w)
  have wx : inI x = true := by rw [inI_iff]; have := wa; unfold Iv.Wf Iv.MIN Iv.MAX at this; omega
  have wy : inI y = true := by rw [inI_iff]; have := wb; unfold Iv.Wf Iv.MIN Iv.MAX at this; omega
  obtain ⟨r, hr⟩ : ∃ r, Iv.apply 2 a b = r := ⟨_, rfl⟩
  obtain ⟨s, hs⟩ : ∃ s, Iv.clip 2 a b = s := ⟨_, rfl⟩
  have hap := Iv.apply_sound3 (op := 2) rfl h1 h2 h3 h4 (wrap64 (x + y)) (by unfold Iv.MIN Iv.MAX; rw [wrap64_eq]; omega) (fun h => by
    have h' : Iv.fit (x + y) = true := h
    rw [fit_inI] at h'
    exact wrap64_id h')
  have hcl := fun h => Iv.clip_sound (op := 2) rfl h1 h2 h3 h4 h
  rw [hr] at hap
  rw [hs] at hcl
  have CA := kept (fun w => apply_of hr wa wb w)
  have CL := kept (fun w => clip_of hs wa wb w)
  have CW := kept (fun w => refwrap_0 x y w)
  have CF := kept (fun w => reffits_0 x y w wx wy)
  have CAH := kept (fun w => has_of hap w)
  have hcl' : inI (x + y) = true → Iv.has s (wrap64 (x + y)) = true := fun h => by
    have h' : Iv.fit (Iv.ex 2 x y) = true := by
      show Iv.fit (x + y) = true
      rw [fit_inI]; exact h
    have := hcl h'
    rw [wrap64_id h]
    exact this
  clear hr hs hc wa wb wx wy hap hcl
  generalize wrap64 (x + y) = n at *
  generalize inI (x + y) = fi at *
  cases fi
  · clear hcl'
    go_enter Try.func17, Try.ntmps17
    go_wp2_with fail
    refine (ivlives _).mono ?_
    rintro e w1 ⟨rfl, k⟩
    have BX1 := kept (Box2.start k)
    clear k
    obtain ⟨u0, u1, v0, v1⟩ := BX1.out.cells
    go_wp2_with fail
    refine (CW.out _).mono ?_
    rintro e w' ⟨rfl, rfl⟩
    go_wp2_with fail
    refine (CA.out _).mono ?_
    rintro e w2 ⟨rfl, k⟩
    have BX2 := kept (BX1.out.next k)
    clear k u0 u1 v0 v1
    obtain ⟨u0, u1, v0, v1⟩ := BX2.out.cells
    go_wp2_with fail
    refine (CAH.out _).mono ?_
    rintro e w3 ⟨rfl, k⟩
    have BX3 := kept (BX2.out.next k)
    clear k u0 u1 v0 v1
    obtain ⟨u0, u1, v0, v1⟩ := BX3.out.cells
    go_wp2_with fail
    refine (CF.out _).mono ?_
    rintro e w' ⟨rfl, rfl⟩
    rcases Bool.eq_false_or_eq_true (Iv.has c x) with hx | hx
    · have CH := kept (fun w => has_of hx w)
      clear hx hcs
      go_wp2_with fail
      refine (CC.out _).mono ?_
      rintro e w4 ⟨rfl, k⟩
      have BX4 := kept (BX3.out.next k)
      clear k u0 u1 v0 v1
      obtain ⟨u0, u1, v0, v1⟩ := BX4.out.cells
      go_wp2_with fail
      refine (CH.out _).mono ?_
      rintro e w5 ⟨rfl, k⟩
      have BX5 := kept (BX4.out.next k)
      clear k u0 u1 v0 v1
      obtain ⟨u0, u1, v0, v1⟩ := BX5.out.cells
      go_wp2
      go_ret
      exact ⟨rfl, bel_of BX5.out.keeps⟩
    · have CI := kept (fun w => is_of (show Iv.is num x y = false by rw [hx] at hcs; simpa using hcs) w)
      have CH := kept (fun w => has_of hx w)
      clear hx hcs
      go_wp2_with fail
      refine (CC.out _).mono ?_
      rintro e w4 ⟨rfl, k⟩
      have BX4 := kept (BX3.out.next k)
      clear k u0 u1 v0 v1
      obtain ⟨u0, u1, v0, v1⟩ := BX4.out.cells
      go_wp2_with fail
      refine (CH.out _).mono ?_
      rintro e w5 ⟨rfl, k⟩
      have BX5 := kept (BX4.out.next k)
      clear k u0 u1 v0 v1
      obtain ⟨u0, u1, v0, v1⟩ := BX5.out.cells
      go_wp2_with fail
      refine (CI.out _).mono ?_
      rintro e w' ⟨rfl, rfl⟩
      go_wp2
      go_ret
      exact ⟨rfl, bel_of BX5.out.keeps⟩
  · have CLH := kept (fun w => has_of (hcl' rfl) w)
    clear hcl'
    go_enter Try.func17, Try.ntmps17
    go_wp2_with fail
    refine (ivlives _).mono ?_
    rintro e w1 ⟨rfl, k⟩
    have BX1 := kept (Box2.start k)
    clear k
    obtain ⟨u0, u1, v0, v1⟩ := BX1.out.cells
    go_wp2_with fail
    refine (CW.out _).mono ?_
    rintro e w' ⟨rfl, rfl⟩
    go_wp2_with fail
    refine (CA.out _).mono ?_
    rintro e w2 ⟨rfl, k⟩
    have BX2 := kept (BX1.out.next k)
    clear k u0 u1 v0 v1
    obtain ⟨u0, u1, v0, v1⟩ := BX2.out.cells
    go_wp2_with fail
    refine (CAH.out _).mono ?_
    rintro e w3 ⟨rfl, k⟩
    have BX3 := kept (BX2.out.next k)
    clear k u0 u1 v0 v1
    obtain ⟨u0, u1, v0, v1⟩ := BX3.out.cells
    go_wp2_with fail
    refine (CF.out _).mono ?_
    rintro e w' ⟨rfl, rfl⟩
    go_wp2_with fail
    refine (CL.out _).mono ?_
    rintro e w4 ⟨rfl, k⟩
    have BX4 := kept (BX3.out.next k)
    clear k u0 u1 v0 v1
    obtain ⟨u0, u1, v0, v1⟩ := BX4.out.cells
    go_wp2_with fail
    refine (CLH.out _).mono ?_
    rintro e w5 ⟨rfl, k⟩
    have BX5 := kept (BX4.out.next k)
    clear k u0 u1 v0 v1
    obtain ⟨u0, u1, v0, v1⟩ := BX5.out.cells
    rcases Bool.eq_false_or_eq_true (Iv.has c x) with hx | hx
    · have CH := kept (fun w => has_of hx w)
      clear hx hcs
      go_wp2_with fail
      refine (CC.out _).mono ?_
      rintro e w6 ⟨rfl, k⟩
      have BX6 := kept (BX5.out.next k)
      clear k u0 u1 v0 v1
      obtain ⟨u0, u1, v0, v1⟩ := BX6.out.cells
      go_wp2_with fail
      refine (CH.out _).mono ?_
      rintro e w7 ⟨rfl, k⟩
      have BX7 := kept (BX6.out.next k)
      clear k u0 u1 v0 v1
      obtain ⟨u0, u1, v0, v1⟩ := BX7.out.cells
      go_wp2
      go_ret
      exact ⟨rfl, bel_of BX7.out.keeps⟩
    · have CI := kept (fun w => is_of (show Iv.is num x y = false by rw [hx] at hcs; simpa using hcs) w)
      have CH := kept (fun w => has_of hx w)
      clear hx hcs
      go_wp2_with fail
      refine (CC.out _).mono ?_
      rintro e w6 ⟨rfl, k⟩
      have BX6 := kept (BX5.out.next k)
      clear k u0 u1 v0 v1
      obtain ⟨u0, u1, v0, v1⟩ := BX6.out.cells
      go_wp2_with fail
      refine (CH.out _).mono ?_
      rintro e w7 ⟨rfl, k⟩
      have BX7 := kept (BX6.out.next k)
      clear k u0 u1 v0 v1
      obtain ⟨u0, u1, v0, v1⟩ := BX7.out.cells
      go_wp2_with fail
      refine (CI.out _).mono ?_
      rintro e w' ⟨rfl, rfl⟩
      go_wp2
      go_ret
      exact ⟨rfl, bel_of BX7.out.keeps⟩
end Go.Proofs.Ytppidnjhdefbiaa
