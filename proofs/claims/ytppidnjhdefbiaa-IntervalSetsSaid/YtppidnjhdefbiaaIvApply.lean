/- Package interval: the contracts of Apply, Clip, Fits, Within. -/
import Derived.Test.YtppidnjhdefbiaaIvQuot
import Derived.Test.YtppidnjhdefbiaaIvRests
import Derived.Test.YtppidnjhdefbiaaIvTruth
import Derived.Test.YtppidnjhdefbiaaIvCorners
namespace Go.Proofs.Ytppidnjhdefbiaa
open Go.RowKit
set_option linter.unusedVariables false

theorem sums_yes {op : Int} (h : Iv.sums op = true) : op = 2 ∨ op = 3 ∨ op = 4 := by simpa [Iv.sums, or_assoc] using h
theorem corners_any {op : Int} (h : Iv.sums op = true) (a b : Iv.R) (wa : Iv.Wf a) (wb : Iv.Wf b) (w : World) :
    Calls Try.prog 95 #[.int .i64 op, .agg #[.int .i64 a.lo, .int .i64 a.hi], .agg #[.int .i64 b.lo, .int .i64 b.hi]] w fun e w' => e = .returned (.agg #[.int .i64 (Iv.clip3 op a b).lo, .int .i64 (Iv.clip3 op a b).hi, .bool (!Iv.fit4 op a b)]) ∧ Keeps w w' [] := by
  rcases sums_yes h with rfl | rfl | rfl
  · exact corners_add a b (inI_iff.2 wa.1) (inI_iff.2 wa.2) (inI_iff.2 wb.1) (inI_iff.2 wb.2) w
  · exact corners_sub a b (inI_iff.2 wa.1) (inI_iff.2 wa.2) (inI_iff.2 wb.1) (inI_iff.2 wb.2) w
  · exact corners_mul a b (inI_iff.2 wa.1) (inI_iff.2 wa.2) (inI_iff.2 wb.1) (inI_iff.2 wb.2) w
theorem sums_of {op : Int} {x : Bool} (h : Iv.sums op = x) (w : World) : Calls Try.prog 94 #[.int .i64 op] w fun e w' => e = .returned (.bool x) ∧ w = w' := by
  rw [← h]; exact sums_any op w

set_option maxHeartbeats 4000000 in
theorem apply_none (op p q s t : Int) (h : q < p ∨ t < s) (w : World) :
    Calls Try.prog 78 #[.int .i64 op, .agg #[.int .i64 p, .int .i64 q], .agg #[.int .i64 s, .int .i64 t]] w fun e w' => e = .returned (.agg #[.int .i64 1, .int .i64 0]) ∧ Keeps w w' [] := by
  by_cases h1 : q < p
  · clear h
    go_enter Try.func78, Try.ntmps78
    go_wp2_with fail
    refine (empty_any _ _ _).mono ?_
    rintro e w1 ⟨rfl, k⟩
    have BX1 := kept (Box3.start k)
    clear k
    obtain ⟨u0, u1, v0, v1, z0, z1, f0, f1⟩ := BX1.out.cells
    go_wp2_with fail
    refine (none_any _).mono ?_
    rintro e w2 ⟨rfl, k⟩
    have BX2 := kept (BX1.out.next k)
    clear k u0 u1 v0 v1 z0 z1 f0 f1
    obtain ⟨u0, u1, v0, v1, z0, z1, f0, f1⟩ := BX2.out.cells
    go_wp2
    exact bodyPost_ret (v := .agg #[.int .i64 1, .int .i64 0]) (by simp [results, Try.results78, go_sem, z0, z1]) rfl ⟨rfl, BX2.out.ends _ _⟩
  · have h2 : t < s := by omega
    have h3 : p ≤ q := by omega
    clear h
    go_enter Try.func78, Try.ntmps78
    go_wp2_with fail
    refine (empty_any _ _ _).mono ?_
    rintro e w1 ⟨rfl, k⟩
    have BX1 := kept (Box3.start k)
    clear k
    obtain ⟨u0, u1, v0, v1, z0, z1, f0, f1⟩ := BX1.out.cells
    go_wp2_with fail
    refine (empty_any _ _ _).mono ?_
    rintro e w2 ⟨rfl, k⟩
    have BX2 := kept (BX1.out.next k)
    clear k u0 u1 v0 v1 z0 z1 f0 f1
    obtain ⟨u0, u1, v0, v1, z0, z1, f0, f1⟩ := BX2.out.cells
    go_wp2_with fail
    refine (none_any _).mono ?_
    rintro e w3 ⟨rfl, k⟩
    have BX3 := kept (BX2.out.next k)
    clear k u0 u1 v0 v1 z0 z1 f0 f1
    obtain ⟨u0, u1, v0, v1, z0, z1, f0, f1⟩ := BX3.out.cells
    go_wp2
    exact bodyPost_ret (v := .agg #[.int .i64 1, .int .i64 0]) (by simp [results, Try.results78, go_sem, z0, z1]) rfl ⟨rfl, BX3.out.ends _ _⟩

set_option maxHeartbeats 8000000 in
theorem apply_some (op p q s t : Int) (wa : Iv.Wf ⟨p, q⟩) (wb : Iv.Wf ⟨s, t⟩) (h1 : p ≤ q) (h2 : s ≤ t) (w : World) :
    Calls Try.prog 78 #[.int .i64 op, .agg #[.int .i64 p, .int .i64 q], .agg #[.int .i64 s, .int .i64 t]] w fun e w' => e = .returned (.agg #[.int .i64 (Iv.apply op ⟨p, q⟩ ⟨s, t⟩).lo, .int .i64 (Iv.apply op ⟨p, q⟩ ⟨s, t⟩).hi]) ∧ Keeps w w' [] := by
  obtain ⟨r, hr⟩ : ∃ r, Iv.apply op ⟨p, q⟩ ⟨s, t⟩ = r := ⟨_, rfl⟩
  rw [hr]
  rw [Iv.apply_open op (a := ⟨p, q⟩) (b := ⟨s, t⟩) h1 h2] at hr
  rcases Bool.eq_false_or_eq_true (Iv.sums op) with hs | hs
  · rw [if_pos hs] at hr
    have S := kept (fun w => sums_of hs w)
    have C := kept (fun w => corners_any hs ⟨p, q⟩ ⟨s, t⟩ wa wb w)
    clear wa wb hs
    rcases Bool.eq_false_or_eq_true (Iv.fit4 op ⟨p, q⟩ ⟨s, t⟩) with hf | hf
    · rw [hf, if_pos rfl] at hr
      rw [hf, hr] at C
      clear hf hr
      go_enter Try.func78, Try.ntmps78
      go_wp2_with fail
      refine (empty_any _ _ _).mono ?_
      rintro e w1 ⟨rfl, k⟩
      have BX1 := kept (Box3.start k)
      clear k
      obtain ⟨u0, u1, v0, v1, z0, z1, f0, f1⟩ := BX1.out.cells
      go_wp2_with fail
      refine (empty_any _ _ _).mono ?_
      rintro e w2 ⟨rfl, k⟩
      have BX2 := kept (BX1.out.next k)
      clear k u0 u1 v0 v1 z0 z1 f0 f1
      obtain ⟨u0, u1, v0, v1, z0, z1, f0, f1⟩ := BX2.out.cells
      go_wp2_with fail
      refine (S.out _).mono ?_
      rintro e w' ⟨rfl, rfl⟩
      go_wp2_with fail
      refine (C.out _).mono ?_
      rintro e w3 ⟨rfl, k⟩
      have BX3 := kept (BX2.out.next k)
      clear k u0 u1 v0 v1 z0 z1 f0 f1
      have bx4 := BX3.out.next ((Keeps.refl w3 []).alloc (.cells #[.int .i64 r.lo, .int .i64 r.hi, .bool false] 128))
      have BX4 := kept bx4
      clear bx4
      obtain ⟨u0, u1, v0, v1, z0, z1, f0, f1⟩ := BX4.out.cells
      go_wp2
      exact bodyPost_ret (v := .agg #[.int .i64 r.lo, .int .i64 r.hi]) (by simp [results, Try.results78, go_sem, z0, z1]) rfl ⟨rfl, BX4.out.ends _ _⟩
    · rw [hf, if_neg (by decide)] at hr
      subst hr
      rw [hf] at C
      clear hf
      generalize Iv.clip3 op ⟨p, q⟩ ⟨s, t⟩ = r at *
      go_enter Try.func78, Try.ntmps78
      go_wp2_with fail
      refine (empty_any _ _ _).mono ?_
      rintro e w1 ⟨rfl, k⟩
      have BX1 := kept (Box3.start k)
      clear k
      obtain ⟨u0, u1, v0, v1, z0, z1, f0, f1⟩ := BX1.out.cells
      go_wp2_with fail
      refine (empty_any _ _ _).mono ?_
      rintro e w2 ⟨rfl, k⟩
      have BX2 := kept (BX1.out.next k)
      clear k u0 u1 v0 v1 z0 z1 f0 f1
      obtain ⟨u0, u1, v0, v1, z0, z1, f0, f1⟩ := BX2.out.cells
      go_wp2_with fail
      refine (S.out _).mono ?_
      rintro e w' ⟨rfl, rfl⟩
      go_wp2_with fail
      refine (C.out _).mono ?_
      rintro e w3 ⟨rfl, k⟩
      have BX3 := kept (BX2.out.next k)
      clear k u0 u1 v0 v1 z0 z1 f0 f1
      have bx4 := BX3.out.next ((Keeps.refl w3 []).alloc (.cells #[.int .i64 r.lo, .int .i64 r.hi, .bool true] 128))
      have BX4 := kept bx4
      clear bx4
      obtain ⟨u0, u1, v0, v1, z0, z1, f0, f1⟩ := BX4.out.cells
      go_wp2_with fail
      refine (all_any _).mono ?_
      rintro e w5 ⟨rfl, k⟩
      have BX5 := kept (BX4.out.next k)
      clear k u0 u1 v0 v1 z0 z1 f0 f1
      obtain ⟨u0, u1, v0, v1, z0, z1, f0, f1⟩ := BX5.out.cells
      go_wp2
      exact bodyPost_ret (v := .agg #[.int .i64 Iv.MIN, .int .i64 Iv.MAX]) (by simp [results, Try.results78, go_sem, z0, z1]) rfl ⟨rfl, BX5.out.ends _ _⟩
  have hs' : ¬ Iv.sums op = true := by rw [hs]; decide
  rw [if_neg hs'] at hr
  have S := kept (fun w => sums_of hs w)
  clear hs hs'
  rcases Bool.eq_false_or_eq_true (op == 5) with h5 | h5
  · have e5 : op = 5 := by simpa using h5
    rw [if_pos e5] at hr
    have C := kept (fun w => quot_any ⟨p, q⟩ ⟨s, t⟩ wa wb h1 h2 w)
    rw [hr] at C
    subst e5
    clear hr h5 wa wb
    go_enter Try.func78, Try.ntmps78
    go_wp2_with fail
    refine (empty_any _ _ _).mono ?_
    rintro e w1 ⟨rfl, k⟩
    have BX1 := kept (Box3.start k)
    clear k
    obtain ⟨u0, u1, v0, v1, z0, z1, f0, f1⟩ := BX1.out.cells
    go_wp2_with fail
    refine (empty_any _ _ _).mono ?_
    rintro e w2 ⟨rfl, k⟩
    have BX2 := kept (BX1.out.next k)
    clear k u0 u1 v0 v1 z0 z1 f0 f1
    obtain ⟨u0, u1, v0, v1, z0, z1, f0, f1⟩ := BX2.out.cells
    go_wp2_with fail
    refine (S.out _).mono ?_
    rintro e w' ⟨rfl, rfl⟩
    go_wp2_with fail
    refine (C.out _).mono ?_
    rintro e w3 ⟨rfl, k⟩
    have BX3 := kept (BX2.out.next k)
    clear k u0 u1 v0 v1 z0 z1 f0 f1
    obtain ⟨u0, u1, v0, v1, z0, z1, f0, f1⟩ := BX3.out.cells
    go_wp2
    exact bodyPost_ret (v := .agg #[.int .i64 r.lo, .int .i64 r.hi]) (by simp [results, Try.results78, go_sem, z0, z1]) rfl ⟨rfl, BX3.out.ends _ _⟩
  have n5 : ¬ op = 5 := by simpa using h5
  rw [if_neg n5] at hr
  rcases Bool.eq_false_or_eq_true (op == 6) with h6 | h6
  · have e6 : op = 6 := by simpa using h6
    rw [if_pos e6] at hr
    have C := kept (fun w => rests_any ⟨p, q⟩ ⟨s, t⟩ wa wb h1 h2 w)
    rw [hr] at C
    subst e6
    clear hr h6 wa wb n5 h5
    go_enter Try.func78, Try.ntmps78
    go_wp2_with fail
    refine (empty_any _ _ _).mono ?_
    rintro e w1 ⟨rfl, k⟩
    have BX1 := kept (Box3.start k)
    clear k
    obtain ⟨u0, u1, v0, v1, z0, z1, f0, f1⟩ := BX1.out.cells
    go_wp2_with fail
    refine (empty_any _ _ _).mono ?_
    rintro e w2 ⟨rfl, k⟩
    have BX2 := kept (BX1.out.next k)
    clear k u0 u1 v0 v1 z0 z1 f0 f1
    obtain ⟨u0, u1, v0, v1, z0, z1, f0, f1⟩ := BX2.out.cells
    go_wp2_with fail
    refine (S.out _).mono ?_
    rintro e w' ⟨rfl, rfl⟩
    go_wp2_with fail
    refine (C.out _).mono ?_
    rintro e w3 ⟨rfl, k⟩
    have BX3 := kept (BX2.out.next k)
    clear k u0 u1 v0 v1 z0 z1 f0 f1
    obtain ⟨u0, u1, v0, v1, z0, z1, f0, f1⟩ := BX3.out.cells
    go_wp2
    exact bodyPost_ret (v := .agg #[.int .i64 r.lo, .int .i64 r.hi]) (by simp [results, Try.results78, go_sem, z0, z1]) rfl ⟨rfl, BX3.out.ends _ _⟩
  have n6 : ¬ op = 6 := by simpa using h6
  rw [if_neg n6] at hr
  subst hr
  clear n5 n6 wa wb
  go_enter Try.func78, Try.ntmps78
  go_wp2_with fail
  refine (empty_any _ _ _).mono ?_
  rintro e w1 ⟨rfl, k⟩
  have BX1 := kept (Box3.start k)
  clear k
  obtain ⟨u0, u1, v0, v1, z0, z1, f0, f1⟩ := BX1.out.cells
  go_wp2_with fail
  refine (empty_any _ _ _).mono ?_
  rintro e w2 ⟨rfl, k⟩
  have BX2 := kept (BX1.out.next k)
  clear k u0 u1 v0 v1 z0 z1 f0 f1
  obtain ⟨u0, u1, v0, v1, z0, z1, f0, f1⟩ := BX2.out.cells
  go_wp2_with fail
  refine (S.out _).mono ?_
  rintro e w' ⟨rfl, rfl⟩
  go_wp2_with fail
  refine (all_any _).mono ?_
  rintro e w3 ⟨rfl, k⟩
  have BX3 := kept (BX2.out.next k)
  clear k u0 u1 v0 v1 z0 z1 f0 f1
  obtain ⟨u0, u1, v0, v1, z0, z1, f0, f1⟩ := BX3.out.cells
  go_wp2
  exact bodyPost_ret (v := .agg #[.int .i64 Iv.MIN, .int .i64 Iv.MAX]) (by simp [results, Try.results78, go_sem, z0, z1]) rfl ⟨rfl, BX3.out.ends _ _⟩

theorem apply_any (op : Int) (a b : Iv.R) (wa : Iv.Wf a) (wb : Iv.Wf b) (w : World) :
    Calls Try.prog 78 #[.int .i64 op, .agg #[.int .i64 a.lo, .int .i64 a.hi], .agg #[.int .i64 b.lo, .int .i64 b.hi]] w fun e w' => e = .returned (.agg #[.int .i64 (Iv.apply op a b).lo, .int .i64 (Iv.apply op a b).hi]) ∧ Keeps w w' [] := by
  obtain ⟨p, q⟩ := a
  obtain ⟨s, t⟩ := b
  by_cases h : q < p ∨ t < s
  · have e : Iv.apply op ⟨p, q⟩ ⟨s, t⟩ = Iv.none := by
      unfold Iv.apply
      rw [if_pos (by rcases h with h | h <;> simp [Iv.emp, h])]
    rw [e]
    exact apply_none op p q s t h w
  · exact apply_some op p q s t wa wb (by omega) (by omega) w
end Go.Proofs.Ytppidnjhdefbiaa
