/- Package interval: the contracts of Clip, Fits, Within. -/
import Derived.Test.YtppidnjhdefbiaaIvApply
namespace Go.Proofs.Ytppidnjhdefbiaa
open Go.RowKit
set_option linter.unusedVariables false

theorem field0 (x y : Int) (b : Bool) : ∀ w, (Instr.field 128 (.agg #[.int .i64 x, .int .i64 y, .bool b]) 0).run Try.prog w = .ok (.agg #[.int .i64 x, .int .i64 y]) w := by intro w; kernel_rfl
theorem field1 (x y : Int) (b : Bool) : ∀ w, (Instr.field 128 (.agg #[.int .i64 x, .int .i64 y, .bool b]) 1).run Try.prog w = .ok (.bool b) w := by intro w; kernel_rfl

set_option maxRecDepth 100000 in
set_option maxHeartbeats 8000000 in
theorem clip_any' (op p q s t : Int) (wa : Iv.Wf ⟨p, q⟩) (wb : Iv.Wf ⟨s, t⟩) (w : World) :
    Calls Try.prog 80 #[.int .i64 op, .agg #[.int .i64 p, .int .i64 q], .agg #[.int .i64 s, .int .i64 t]] w fun e w' => e = .returned (.agg #[.int .i64 (Iv.clip op ⟨p, q⟩ ⟨s, t⟩).lo, .int .i64 (Iv.clip op ⟨p, q⟩ ⟨s, t⟩).hi]) ∧ Keeps w w' [] := by
  obtain ⟨r, hr⟩ : ∃ r, Iv.clip op ⟨p, q⟩ ⟨s, t⟩ = r := ⟨_, rfl⟩
  rw [hr]
  by_cases h1 : q < p
  · have e : Iv.apply op ⟨p, q⟩ ⟨s, t⟩ = r := by
      rw [← hr]; unfold Iv.apply Iv.clip
      rw [if_pos (by simp [Iv.emp, h1]), if_pos (by simp [Iv.emp, h1])]
    have C := kept (fun w => apply_any op ⟨p, q⟩ ⟨s, t⟩ wa wb w)
    rw [e] at C
    clear e hr wa wb
    go_enter Try.func80, Try.ntmps80
    go_wp2_with fail
    refine (empty_any _ _ _).mono ?_
    rintro e w1 ⟨rfl, k⟩
    have BX1 := kept (Box3.start k)
    clear k
    obtain ⟨u0, u1, v0, v1, z0, z1, f0, f1⟩ := BX1.out.cells
    go_wp2_with fail
    refine (C.out _).mono ?_
    rintro e w2 ⟨rfl, k⟩
    have BX2 := kept (BX1.out.next k)
    clear k u0 u1 v0 v1 z0 z1 f0 f1
    obtain ⟨u0, u1, v0, v1, z0, z1, f0, f1⟩ := BX2.out.cells
    go_wp2
    exact bodyPost_ret (v := .agg #[.int .i64 r.lo, .int .i64 r.hi]) (by simp [results, Try.results80, go_sem, z0, z1]) rfl ⟨rfl, BX2.out.ends _ _⟩
  have h2 : p ≤ q := by omega
  by_cases h3 : t < s
  · have e : Iv.apply op ⟨p, q⟩ ⟨s, t⟩ = r := by
      rw [← hr]; unfold Iv.apply Iv.clip
      rw [if_pos (by simp [Iv.emp, h3]), if_pos (by simp [Iv.emp, h3])]
    have C := kept (fun w => apply_any op ⟨p, q⟩ ⟨s, t⟩ wa wb w)
    rw [e] at C
    clear e hr wa wb
    go_enter Try.func80, Try.ntmps80
    go_wp2_with fail
    refine (empty_any _ _ _).mono ?_
    rintro e w1 ⟨rfl, k⟩
    have BX1 := kept (Box3.start k)
    clear k
    obtain ⟨u0, u1, v0, v1, z0, z1, f0, f1⟩ := BX1.out.cells
    go_wp2_with fail
    refine (empty_any _ _ _).mono ?_
    rintro e w2 ⟨rfl, k⟩
    have BX2 := kept (BX1.out.next k)
    clear k u0 u1 v0 v1 z0 z1 f0 f1
    obtain ⟨u0, u1, v0, v1, z0, z1, f0, f1⟩ := BX2.out.cells
    go_wp2_with fail
    refine (C.out _).mono ?_
    rintro e w3 ⟨rfl, k⟩
    have BX3 := kept (BX2.out.next k)
    clear k u0 u1 v0 v1 z0 z1 f0 f1
    obtain ⟨u0, u1, v0, v1, z0, z1, f0, f1⟩ := BX3.out.cells
    go_wp2
    exact bodyPost_ret (v := .agg #[.int .i64 r.lo, .int .i64 r.hi]) (by simp [results, Try.results80, go_sem, z0, z1]) rfl ⟨rfl, BX3.out.ends _ _⟩
  have h4 : s ≤ t := by omega
  rw [Iv.clip_open op (a := ⟨p, q⟩) (b := ⟨s, t⟩) h2 h4] at hr
  rcases Bool.eq_false_or_eq_true (Iv.sums op) with hs | hs
  · rw [if_pos hs] at hr
    have S := kept (fun w => sums_of hs w)
    have C := kept (fun w => corners_any hs ⟨p, q⟩ ⟨s, t⟩ wa wb w)
    rw [hr] at C
    have hfl := field0 r.lo r.hi (!Iv.fit4 op ⟨p, q⟩ ⟨s, t⟩)
    clear wa wb hs hr
    go_enter Try.func80, Try.ntmps80
    go_wp2_with fail
    refine (empty_any _ _ _).mono ?_
    rintro e w1 ⟨rfl, k⟩
    have BX1 := kept (Box3.start k)
    clear k
    obtain ⟨u0, u1, v0, v1, z0, z1, f0, f1⟩ := BX1.out.cells
    go_wp2_with fail
    refine (empty_any _ _ _).mono ?_
    rintro e w2 ⟨rfl, k⟩
    have BX2 := kept (BX1.out.next k)
    clear k u0 u1 v0 v1 z0 z1 f0 f1
    obtain ⟨u0, u1, v0, v1, z0, z1, f0, f1⟩ := BX2.out.cells
    go_wp2_with fail
    refine (S.out _).mono ?_
    rintro e w' ⟨rfl, rfl⟩
    go_wp2_with fail
    refine (C.out _).mono ?_
    rintro e w3 ⟨rfl, k⟩
    have BX3 := kept (BX2.out.next k)
    clear k u0 u1 v0 v1 z0 z1 f0 f1
    obtain ⟨u0, u1, v0, v1, z0, z1, f0, f1⟩ := BX3.out.cells
    go_wp2
    exact bodyPost_ret (v := .agg #[.int .i64 r.lo, .int .i64 r.hi]) (by simp [results, Try.results80, go_sem, z0, z1]) rfl ⟨rfl, BX3.out.ends _ _⟩
  · rw [if_neg (by rw [hs]; decide)] at hr
    have S := kept (fun w => sums_of hs w)
    have C := kept (fun w => apply_any op ⟨p, q⟩ ⟨s, t⟩ wa wb w)
    rw [hr] at C
    clear wa wb hs hr
    go_enter Try.func80, Try.ntmps80
    go_wp2_with fail
    refine (empty_any _ _ _).mono ?_
    rintro e w1 ⟨rfl, k⟩
    have BX1 := kept (Box3.start k)
    clear k
    obtain ⟨u0, u1, v0, v1, z0, z1, f0, f1⟩ := BX1.out.cells
    go_wp2_with fail
    refine (empty_any _ _ _).mono ?_
    rintro e w2 ⟨rfl, k⟩
    have BX2 := kept (BX1.out.next k)
    clear k u0 u1 v0 v1 z0 z1 f0 f1
    obtain ⟨u0, u1, v0, v1, z0, z1, f0, f1⟩ := BX2.out.cells
    go_wp2_with fail
    refine (S.out _).mono ?_
    rintro e w' ⟨rfl, rfl⟩
    go_wp2_with fail
    refine (C.out _).mono ?_
    rintro e w3 ⟨rfl, k⟩
    have BX3 := kept (BX2.out.next k)
    clear k u0 u1 v0 v1 z0 z1 f0 f1
    obtain ⟨u0, u1, v0, v1, z0, z1, f0, f1⟩ := BX3.out.cells
    go_wp2
    exact bodyPost_ret (v := .agg #[.int .i64 r.lo, .int .i64 r.hi]) (by simp [results, Try.results80, go_sem, z0, z1]) rfl ⟨rfl, BX3.out.ends _ _⟩

theorem clip_any (op : Int) (a b : Iv.R) (wa : Iv.Wf a) (wb : Iv.Wf b) (w : World) :
    Calls Try.prog 80 #[.int .i64 op, .agg #[.int .i64 a.lo, .int .i64 a.hi], .agg #[.int .i64 b.lo, .int .i64 b.hi]] w fun e w' => e = .returned (.agg #[.int .i64 (Iv.clip op a b).lo, .int .i64 (Iv.clip op a b).hi]) ∧ Keeps w w' [] := clip_any' op a.lo a.hi b.lo b.hi wa wb w

theorem box2 {w w' : World} {A B : Array Value} {x y : TypeId} (k : Keeps ((w.alloc (.cells A x)).alloc (.cells B y)) w' []) : Keeps w w' [] ∧ Blk w' w.heap.size x A ∧ Blk w' (w.heap.size + 1) y B := by
  refine ⟨(((Keeps.refl w []).alloc _).alloc _).next k, ?_, ?_⟩
  · exact ((Blk.new w x A).keep ((Keeps.refl _ []).alloc _) (by simp)).keep k (by simp)
  · have h := (Blk.new (w.alloc (.cells A x)) y B).keep k (by simp)
    simpa using h
/-- two ranges by value, behind calls -/
structure Box2 (w w' : World) (a b : Iv.R) : Prop where
  keeps : Keeps w w' []
  ba : Blk w' w.heap.size 86 #[.int .i64 a.lo, .int .i64 a.hi]
  bb : Blk w' (w.heap.size + 1) 86 #[.int .i64 b.lo, .int .i64 b.hi]
section
variable {w w' w'' : World} {a b : Iv.R}
theorem Box2.start {p q s t : Int} (k : Keeps ((w.alloc (.cells #[.int .i64 p, .int .i64 q] 86)).alloc (.cells #[.int .i64 s, .int .i64 t] 86)) w' []) : Box2 w w' ⟨p, q⟩ ⟨s, t⟩ := by
  obtain ⟨h1, h2, h3⟩ := box2 k
  exact ⟨h1, h2, h3⟩
theorem Box2.next (h : Box2 w w' a b) (k : Keeps w' w'' []) : Box2 w w'' a b := ⟨h.keeps.next k, h.ba.keep k (by simp), h.bb.keep k (by simp)⟩
theorem Box2.cells (h : Box2 w w' a b) : w'.cell? ⟨w.heap.size, 0, none⟩ = some (.int .i64 a.lo) ∧ w'.cell? ⟨w.heap.size, 1, none⟩ = some (.int .i64 a.hi) ∧ w'.cell? ⟨w.heap.size + 1, 0, none⟩ = some (.int .i64 b.lo) ∧ w'.cell? ⟨w.heap.size + 1, 1, none⟩ = some (.int .i64 b.hi) :=
  ⟨h.ba.cell 0, h.ba.cell 1, h.bb.cell 0, h.bb.cell 1⟩
end

set_option maxHeartbeats 4000000 in
theorem within_any' (p q s t : Int) (w : World) :
    Calls Try.prog 68 #[.agg #[.int .i64 p, .int .i64 q], .agg #[.int .i64 s, .int .i64 t]] w fun e w' => e = .returned (.bool (Iv.within ⟨p, q⟩ ⟨s, t⟩)) ∧ Keeps w w' [] := by
  have e : Iv.within ⟨p, q⟩ ⟨s, t⟩ = (decide (q < p) || (Iv.has ⟨s, t⟩ p && Iv.has ⟨s, t⟩ q)) := rfl
  rw [e]
  clear e
  have C1 := kept (fun w => has_any s t p w)
  have C2 := kept (fun w => has_any s t q w)
  generalize Iv.has ⟨s, t⟩ p = x at *
  generalize Iv.has ⟨s, t⟩ q = y at *
  by_cases h1 : q < p
  · have d1 : decide (q < p) = true := decide_eq_true h1
    go_enter Try.func68, Try.ntmps68
    go_wp2_with fail
    refine (empty_any _ _ _).mono ?_
    rintro e w1 ⟨rfl, k⟩
    have BX1 := kept (Box2.start k)
    clear k
    obtain ⟨u0, u1, v0, v1⟩ := BX1.out.cells
    go_wp2
    go_ret
    exact ⟨by rw [d1]; simp, BX1.out.keeps⟩
  have d1 : decide (q < p) = false := decide_eq_false h1
  have h2 : p ≤ q := by omega
  cases x
  · go_enter Try.func68, Try.ntmps68
    go_wp2_with fail
    refine (empty_any _ _ _).mono ?_
    rintro e w1 ⟨rfl, k⟩
    have BX1 := kept (Box2.start k)
    clear k
    obtain ⟨u0, u1, v0, v1⟩ := BX1.out.cells
    go_wp2_with fail
    refine (C1.out _).mono ?_
    rintro e w2 ⟨rfl, k⟩
    have BX2 := kept (BX1.out.next k)
    clear k u0 u1 v0 v1
    obtain ⟨u0, u1, v0, v1⟩ := BX2.out.cells
    go_wp2
    go_ret
    exact ⟨by rw [d1]; simp, BX2.out.keeps⟩
  · go_enter Try.func68, Try.ntmps68
    go_wp2_with fail
    refine (empty_any _ _ _).mono ?_
    rintro e w1 ⟨rfl, k⟩
    have BX1 := kept (Box2.start k)
    clear k
    obtain ⟨u0, u1, v0, v1⟩ := BX1.out.cells
    go_wp2_with fail
    refine (C1.out _).mono ?_
    rintro e w2 ⟨rfl, k⟩
    have BX2 := kept (BX1.out.next k)
    clear k u0 u1 v0 v1
    obtain ⟨u0, u1, v0, v1⟩ := BX2.out.cells
    go_wp2_with fail
    refine (C2.out _).mono ?_
    rintro e w3 ⟨rfl, k⟩
    have BX3 := kept (BX2.out.next k)
    clear k u0 u1 v0 v1
    obtain ⟨u0, u1, v0, v1⟩ := BX3.out.cells
    go_wp2
    go_ret
    exact ⟨by rw [d1]; simp, BX3.out.keeps⟩

theorem within_any (a b : Iv.R) (w : World) :
    Calls Try.prog 68 #[.agg #[.int .i64 a.lo, .int .i64 a.hi], .agg #[.int .i64 b.lo, .int .i64 b.hi]] w fun e w' => e = .returned (.bool (Iv.within a b)) ∧ Keeps w w' [] := within_any' a.lo a.hi b.lo b.hi w

theorem fits_open (op p q s t : Int) : Iv.fits op ⟨p, q⟩ ⟨s, t⟩ = (Iv.sums (Iv.chk op) && (decide (q < p) || decide (t < s) || Iv.fit4 (Iv.chk op) ⟨p, q⟩ ⟨s, t⟩)) := rfl

set_option maxRecDepth 100000 in
set_option maxHeartbeats 16000000 in
theorem fits_any' (op p q s t : Int) (wa : Iv.Wf ⟨p, q⟩) (wb : Iv.Wf ⟨s, t⟩) (w : World) :
    Calls Try.prog 81 #[.int .i64 op, .agg #[.int .i64 p, .int .i64 q], .agg #[.int .i64 s, .int .i64 t]] w fun e w' => e = .returned (.bool (Iv.fits op ⟨p, q⟩ ⟨s, t⟩)) ∧ Keeps w w' [] := by
  obtain ⟨r, hr⟩ : ∃ r, Iv.fits op ⟨p, q⟩ ⟨s, t⟩ = r := ⟨_, rfl⟩
  rw [hr]
  rw [fits_open] at hr
  by_cases n21 : op = 21
  · subst n21
    have hs : Iv.sums 2 = true := rfl
    have e : Iv.chk 21 = 2 := rfl
    rw [e, hs] at hr
    have S := kept (fun w => sums_of hs w)
    have C := kept (fun w => corners_any hs ⟨p, q⟩ ⟨s, t⟩ wa wb w)
    clear wa wb hs e
    generalize Iv.fit4 2 ⟨p, q⟩ ⟨s, t⟩ = ft at *
    generalize Iv.clip3 2 ⟨p, q⟩ ⟨s, t⟩ = cl at *
    have FO := kept hr.symm
    have hfl := field1 cl.lo cl.hi (!ft)
    clear hr
    by_cases h1 : q < p
    · have d1 : decide (q < p) = true := decide_eq_true h1
      go_enter Try.func81, Try.ntmps81
      go_wp2_with fail
      refine (S.out _).mono ?_
      rintro e w' ⟨rfl, rfl⟩
      go_wp2_with fail
      refine (empty_any _ _ _).mono ?_
      rintro e w1 ⟨rfl, k⟩
      have BX1 := kept (Box2.start k)
      clear k
      obtain ⟨u0, u1, v0, v1⟩ := BX1.out.cells
      go_wp2
      go_ret
      exact ⟨by rw [FO.out, d1]; simp, BX1.out.keeps⟩
    have d1 : decide (q < p) = false := decide_eq_false h1
    have h2 : p ≤ q := by omega
    by_cases h3 : t < s
    · have d2 : decide (t < s) = true := decide_eq_true h3
      go_enter Try.func81, Try.ntmps81
      go_wp2_with fail
      refine (S.out _).mono ?_
      rintro e w' ⟨rfl, rfl⟩
      go_wp2_with fail
      refine (empty_any _ _ _).mono ?_
      rintro e w1 ⟨rfl, k⟩
      have BX1 := kept (Box2.start k)
      clear k
      obtain ⟨u0, u1, v0, v1⟩ := BX1.out.cells
      go_wp2_with fail
      refine (empty_any _ _ _).mono ?_
      rintro e w2 ⟨rfl, k⟩
      have BX2 := kept (BX1.out.next k)
      clear k u0 u1 v0 v1
      obtain ⟨u0, u1, v0, v1⟩ := BX2.out.cells
      go_wp2
      go_ret
      exact ⟨by rw [FO.out, d1, d2]; simp, BX2.out.keeps⟩
    have d2 : decide (t < s) = false := decide_eq_false h3
    have h4 : s ≤ t := by omega
    go_enter Try.func81, Try.ntmps81
    go_wp2_with fail
    refine (S.out _).mono ?_
    rintro e w' ⟨rfl, rfl⟩
    go_wp2_with fail
    refine (empty_any _ _ _).mono ?_
    rintro e w1 ⟨rfl, k⟩
    have BX1 := kept (Box2.start k)
    clear k
    obtain ⟨u0, u1, v0, v1⟩ := BX1.out.cells
    go_wp2_with fail
    refine (empty_any _ _ _).mono ?_
    rintro e w2 ⟨rfl, k⟩
    have BX2 := kept (BX1.out.next k)
    clear k u0 u1 v0 v1
    obtain ⟨u0, u1, v0, v1⟩ := BX2.out.cells
    go_wp2_with fail
    refine (C.out _).mono ?_
    rintro e w3 ⟨rfl, k⟩
    have BX3 := kept (BX2.out.next k)
    clear k u0 u1 v0 v1
    obtain ⟨u0, u1, v0, v1⟩ := BX3.out.cells
    go_wp2
    go_ret
    exact ⟨by rw [FO.out, d1, d2]; simp, BX3.out.keeps⟩
  by_cases n22 : op = 22
  · subst n22
    have hs : Iv.sums 3 = true := rfl
    have e : Iv.chk 22 = 3 := rfl
    rw [e, hs] at hr
    have S := kept (fun w => sums_of hs w)
    have C := kept (fun w => corners_any hs ⟨p, q⟩ ⟨s, t⟩ wa wb w)
    clear wa wb hs e
    generalize Iv.fit4 3 ⟨p, q⟩ ⟨s, t⟩ = ft at *
    generalize Iv.clip3 3 ⟨p, q⟩ ⟨s, t⟩ = cl at *
    have FO := kept hr.symm
    have hfl := field1 cl.lo cl.hi (!ft)
    clear hr
    by_cases h1 : q < p
    · have d1 : decide (q < p) = true := decide_eq_true h1
      go_enter Try.func81, Try.ntmps81
      go_wp2_with fail
      refine (S.out _).mono ?_
      rintro e w' ⟨rfl, rfl⟩
      go_wp2_with fail
      refine (empty_any _ _ _).mono ?_
      rintro e w1 ⟨rfl, k⟩
      have BX1 := kept (Box2.start k)
      clear k
      obtain ⟨u0, u1, v0, v1⟩ := BX1.out.cells
      go_wp2
      go_ret
      exact ⟨by rw [FO.out, d1]; simp, BX1.out.keeps⟩
    have d1 : decide (q < p) = false := decide_eq_false h1
    have h2 : p ≤ q := by omega
    by_cases h3 : t < s
    · have d2 : decide (t < s) = true := decide_eq_true h3
      go_enter Try.func81, Try.ntmps81
      go_wp2_with fail
      refine (S.out _).mono ?_
      rintro e w' ⟨rfl, rfl⟩
      go_wp2_with fail
      refine (empty_any _ _ _).mono ?_
      rintro e w1 ⟨rfl, k⟩
      have BX1 := kept (Box2.start k)
      clear k
      obtain ⟨u0, u1, v0, v1⟩ := BX1.out.cells
      go_wp2_with fail
      refine (empty_any _ _ _).mono ?_
      rintro e w2 ⟨rfl, k⟩
      have BX2 := kept (BX1.out.next k)
      clear k u0 u1 v0 v1
      obtain ⟨u0, u1, v0, v1⟩ := BX2.out.cells
      go_wp2
      go_ret
      exact ⟨by rw [FO.out, d1, d2]; simp, BX2.out.keeps⟩
    have d2 : decide (t < s) = false := decide_eq_false h3
    have h4 : s ≤ t := by omega
    go_enter Try.func81, Try.ntmps81
    go_wp2_with fail
    refine (S.out _).mono ?_
    rintro e w' ⟨rfl, rfl⟩
    go_wp2_with fail
    refine (empty_any _ _ _).mono ?_
    rintro e w1 ⟨rfl, k⟩
    have BX1 := kept (Box2.start k)
    clear k
    obtain ⟨u0, u1, v0, v1⟩ := BX1.out.cells
    go_wp2_with fail
    refine (empty_any _ _ _).mono ?_
    rintro e w2 ⟨rfl, k⟩
    have BX2 := kept (BX1.out.next k)
    clear k u0 u1 v0 v1
    obtain ⟨u0, u1, v0, v1⟩ := BX2.out.cells
    go_wp2_with fail
    refine (C.out _).mono ?_
    rintro e w3 ⟨rfl, k⟩
    have BX3 := kept (BX2.out.next k)
    clear k u0 u1 v0 v1
    obtain ⟨u0, u1, v0, v1⟩ := BX3.out.cells
    go_wp2
    go_ret
    exact ⟨by rw [FO.out, d1, d2]; simp, BX3.out.keeps⟩
  by_cases n23 : op = 23
  · subst n23
    have hs : Iv.sums 4 = true := rfl
    have e : Iv.chk 23 = 4 := rfl
    rw [e, hs] at hr
    have S := kept (fun w => sums_of hs w)
    have C := kept (fun w => corners_any hs ⟨p, q⟩ ⟨s, t⟩ wa wb w)
    clear wa wb hs e
    generalize Iv.fit4 4 ⟨p, q⟩ ⟨s, t⟩ = ft at *
    generalize Iv.clip3 4 ⟨p, q⟩ ⟨s, t⟩ = cl at *
    have FO := kept hr.symm
    have hfl := field1 cl.lo cl.hi (!ft)
    clear hr
    by_cases h1 : q < p
    · have d1 : decide (q < p) = true := decide_eq_true h1
      go_enter Try.func81, Try.ntmps81
      go_wp2_with fail
      refine (S.out _).mono ?_
      rintro e w' ⟨rfl, rfl⟩
      go_wp2_with fail
      refine (empty_any _ _ _).mono ?_
      rintro e w1 ⟨rfl, k⟩
      have BX1 := kept (Box2.start k)
      clear k
      obtain ⟨u0, u1, v0, v1⟩ := BX1.out.cells
      go_wp2
      go_ret
      exact ⟨by rw [FO.out, d1]; simp, BX1.out.keeps⟩
    have d1 : decide (q < p) = false := decide_eq_false h1
    have h2 : p ≤ q := by omega
    by_cases h3 : t < s
    · have d2 : decide (t < s) = true := decide_eq_true h3
      go_enter Try.func81, Try.ntmps81
      go_wp2_with fail
      refine (S.out _).mono ?_
      rintro e w' ⟨rfl, rfl⟩
      go_wp2_with fail
      refine (empty_any _ _ _).mono ?_
      rintro e w1 ⟨rfl, k⟩
      have BX1 := kept (Box2.start k)
      clear k
      obtain ⟨u0, u1, v0, v1⟩ := BX1.out.cells
      go_wp2_with fail
      refine (empty_any _ _ _).mono ?_
      rintro e w2 ⟨rfl, k⟩
      have BX2 := kept (BX1.out.next k)
      clear k u0 u1 v0 v1
      obtain ⟨u0, u1, v0, v1⟩ := BX2.out.cells
      go_wp2
      go_ret
      exact ⟨by rw [FO.out, d1, d2]; simp, BX2.out.keeps⟩
    have d2 : decide (t < s) = false := decide_eq_false h3
    have h4 : s ≤ t := by omega
    go_enter Try.func81, Try.ntmps81
    go_wp2_with fail
    refine (S.out _).mono ?_
    rintro e w' ⟨rfl, rfl⟩
    go_wp2_with fail
    refine (empty_any _ _ _).mono ?_
    rintro e w1 ⟨rfl, k⟩
    have BX1 := kept (Box2.start k)
    clear k
    obtain ⟨u0, u1, v0, v1⟩ := BX1.out.cells
    go_wp2_with fail
    refine (empty_any _ _ _).mono ?_
    rintro e w2 ⟨rfl, k⟩
    have BX2 := kept (BX1.out.next k)
    clear k u0 u1 v0 v1
    obtain ⟨u0, u1, v0, v1⟩ := BX2.out.cells
    go_wp2_with fail
    refine (C.out _).mono ?_
    rintro e w3 ⟨rfl, k⟩
    have BX3 := kept (BX2.out.next k)
    clear k u0 u1 v0 v1
    obtain ⟨u0, u1, v0, v1⟩ := BX3.out.cells
    go_wp2
    go_ret
    exact ⟨by rw [FO.out, d1, d2]; simp, BX3.out.keeps⟩
  have e : Iv.chk op = op := by unfold Iv.chk; rw [if_neg (by omega)]
  rw [e] at hr
  have d0 : decide (21 ≤ op) = true ∧ decide (op ≤ 23) = false ∨ decide (21 ≤ op) = false := by simp; omega
  clear n21 n22 n23 e
  rcases Bool.eq_false_or_eq_true (Iv.sums op) with hs | hs
  · rw [hs] at hr
    have hop : ¬ 21 ≤ op := by rcases sums_yes hs with h | h | h <;> omega
    have S := kept (fun w => sums_of hs w)
    have C := kept (fun w => corners_any hs ⟨p, q⟩ ⟨s, t⟩ wa wb w)
    clear wa wb hs d0
    generalize Iv.fit4 op ⟨p, q⟩ ⟨s, t⟩ = ft at *
    generalize Iv.clip3 op ⟨p, q⟩ ⟨s, t⟩ = cl at *
    have FO := kept hr.symm
    have hfl := field1 cl.lo cl.hi (!ft)
    clear hr
    by_cases h1 : q < p
    · have d1 : decide (q < p) = true := decide_eq_true h1
      go_enter Try.func81, Try.ntmps81
      go_wp2_with fail
      refine (S.out _).mono ?_
      rintro e w' ⟨rfl, rfl⟩
      go_wp2_with fail
      refine (empty_any _ _ _).mono ?_
      rintro e w1 ⟨rfl, k⟩
      have BX1 := kept (Box2.start k)
      clear k
      obtain ⟨u0, u1, v0, v1⟩ := BX1.out.cells
      go_wp2
      go_ret
      exact ⟨by rw [FO.out, d1]; simp, BX1.out.keeps⟩
    have d1 : decide (q < p) = false := decide_eq_false h1
    have h2 : p ≤ q := by omega
    by_cases h3 : t < s
    · have d2 : decide (t < s) = true := decide_eq_true h3
      go_enter Try.func81, Try.ntmps81
      go_wp2_with fail
      refine (S.out _).mono ?_
      rintro e w' ⟨rfl, rfl⟩
      go_wp2_with fail
      refine (empty_any _ _ _).mono ?_
      rintro e w1 ⟨rfl, k⟩
      have BX1 := kept (Box2.start k)
      clear k
      obtain ⟨u0, u1, v0, v1⟩ := BX1.out.cells
      go_wp2_with fail
      refine (empty_any _ _ _).mono ?_
      rintro e w2 ⟨rfl, k⟩
      have BX2 := kept (BX1.out.next k)
      clear k u0 u1 v0 v1
      obtain ⟨u0, u1, v0, v1⟩ := BX2.out.cells
      go_wp2
      go_ret
      exact ⟨by rw [FO.out, d1, d2]; simp, BX2.out.keeps⟩
    have d2 : decide (t < s) = false := decide_eq_false h3
    have h4 : s ≤ t := by omega
    go_enter Try.func81, Try.ntmps81
    go_wp2_with fail
    refine (S.out _).mono ?_
    rintro e w' ⟨rfl, rfl⟩
    go_wp2_with fail
    refine (empty_any _ _ _).mono ?_
    rintro e w1 ⟨rfl, k⟩
    have BX1 := kept (Box2.start k)
    clear k
    obtain ⟨u0, u1, v0, v1⟩ := BX1.out.cells
    go_wp2_with fail
    refine (empty_any _ _ _).mono ?_
    rintro e w2 ⟨rfl, k⟩
    have BX2 := kept (BX1.out.next k)
    clear k u0 u1 v0 v1
    obtain ⟨u0, u1, v0, v1⟩ := BX2.out.cells
    go_wp2_with fail
    refine (C.out _).mono ?_
    rintro e w3 ⟨rfl, k⟩
    have BX3 := kept (BX2.out.next k)
    clear k u0 u1 v0 v1
    obtain ⟨u0, u1, v0, v1⟩ := BX3.out.cells
    go_wp2
    go_ret
    exact ⟨by rw [FO.out, d1, d2]; simp, BX3.out.keeps⟩
  · rw [hs] at hr
    have S := kept (fun w => sums_of hs w)
    have FO := kept hr.symm
    clear wa wb hs hr
    rcases d0 with ⟨h5, h6⟩ | h5
    all_goals
      go_enter Try.func81, Try.ntmps81
      go_wp2_with fail
      refine (S.out _).mono ?_
      rintro e w' ⟨rfl, rfl⟩
      go_wp2
      go_ret
      exact ⟨by rw [FO.out]; simp, ((Keeps.refl w []).alloc _).alloc _⟩

theorem fits_any (op : Int) (a b : Iv.R) (wa : Iv.Wf a) (wb : Iv.Wf b) (w : World) :
    Calls Try.prog 81 #[.int .i64 op, .agg #[.int .i64 a.lo, .int .i64 a.hi], .agg #[.int .i64 b.lo, .int .i64 b.hi]] w fun e w' => e = .returned (.bool (Iv.fits op a b)) ∧ Keeps w w' [] := fits_any' op a.lo a.hi b.lo b.hi wa wb w
end Go.Proofs.Ytppidnjhdefbiaa
