/- Package interval: the contracts of Cut. -/
import Derived.Test.YtppidnjhdefbiaaIvCorners
namespace Go.Proofs.Ytppidnjhdefbiaa
open Go.RowKit
set_option linter.unusedVariables false

/-- two ranges by value and the result's cells, behind calls -/
structure Box3 (w w' : World) (a b c : Iv.R) : Prop where
  keeps : Keeps w w' []
  ba : Blk w' w.heap.size 86 #[.int .i64 a.lo, .int .i64 a.hi]
  bb : Blk w' (w.heap.size + 1) 86 #[.int .i64 b.lo, .int .i64 b.hi]
  bc : Blk w' (w.heap.size + 1 + 1) 86 #[.int .i64 c.lo, .int .i64 c.hi]
section
variable {w w' w'' : World} {a b c : Iv.R}
theorem Box3.start {p q s t x y : Int} (k : Keeps (((w.alloc (.cells #[.int .i64 p, .int .i64 q] 86)).alloc (.cells #[.int .i64 s, .int .i64 t] 86)).alloc (.cells #[.int .i64 x, .int .i64 y] 86)) w' []) : Box3 w w' ⟨p, q⟩ ⟨s, t⟩ ⟨x, y⟩ := by
  obtain ⟨h1, h2, h3, h4⟩ := box3 k
  exact ⟨h1, h2, h3, h4⟩
theorem Box3.next (h : Box3 w w' a b c) (k : Keeps w' w'' []) : Box3 w w'' a b c := ⟨h.keeps.next k, h.ba.keep k (by simp), h.bb.keep k (by simp), h.bc.keep k (by simp)⟩
theorem Box3.cells (h : Box3 w w' a b c) : w'.cell? ⟨w.heap.size, 0, none⟩ = some (.int .i64 a.lo) ∧ w'.cell? ⟨w.heap.size, 1, none⟩ = some (.int .i64 a.hi) ∧ w'.cell? ⟨w.heap.size + 1, 0, none⟩ = some (.int .i64 b.lo) ∧ w'.cell? ⟨w.heap.size + 1, 1, none⟩ = some (.int .i64 b.hi) ∧
    w'.cell? ⟨w.heap.size + 1 + 1, 0, none⟩ = some (.int .i64 c.lo) ∧ w'.cell? ⟨w.heap.size + 1 + 1, 1, none⟩ = some (.int .i64 c.hi) ∧ w'.frozen? ⟨w.heap.size + 1 + 1, 0, none⟩ = false ∧ w'.frozen? ⟨w.heap.size + 1 + 1, 1, none⟩ = false :=
  ⟨h.ba.cell 0, h.ba.cell 1, h.bb.cell 0, h.bb.cell 1, h.bc.cell 0, h.bc.cell 1, h.bc.frozen 0, h.bc.frozen 1⟩
theorem Box3.ends (h : Box3 w w' a b c) (u v : Value) : Keeps w ((w'.setCell ⟨w.heap.size + 1 + 1, 0, none⟩ u).setCell ⟨w.heap.size + 1 + 1, 1, none⟩ v) [] :=
  (h.keeps.setCell (.inr (by simp; omega)) _).setCell (.inr (by simp; omega)) _
theorem Box3.old (h : Box3 w w' a b c) : ¬ w'.heap.size = w.heap.size + 1 + 1 ∧ w.heap.size + 1 + 1 < w'.heap.size := by
  have := h.bc.lt
  omega
end

theorem cut_open (num p q s t : Int) (h1 : p ≤ q) (h2 : s ≤ t) : Iv.cut num ⟨p, q⟩ ⟨s, t⟩ = if num = 0 then (if t = Iv.MIN then Iv.none else Iv.made p (min q (t - 1))) else if num = 1 then Iv.made p (min q t) else if num = 2 then Iv.meet ⟨p, q⟩ ⟨s, t⟩
    else if num = 3 then Iv.made (max p s) q else if num = 4 then (if s = Iv.MAX then Iv.none else Iv.made (max p (s + 1)) q) else ⟨p, q⟩ := by
  unfold Iv.cut
  simp only
  rw [if_neg (by omega)]

set_option maxHeartbeats 4000000 in
theorem cut_none (num p q s t : Int) (h : q < p ∨ t < s) (w : World) :
    Calls Try.prog 79 #[.int .i64 num, .agg #[.int .i64 p, .int .i64 q], .agg #[.int .i64 s, .int .i64 t]] w fun e w' => e = .returned (.agg #[.int .i64 1, .int .i64 0]) ∧ Keeps w w' [] := by
  by_cases h1 : q < p
  · go_enter Try.func79, Try.ntmps79
    go_wp2_with fail
    refine (empty_any _ _ _).mono ?_
    rintro e w1 ⟨rfl, k⟩
    have BX1 := kept (Box3.start k)
    clear k
    obtain ⟨u0, u1, v0, v1, z0, z1, f0, f1⟩ := BX1.out.cells
    go_wp2_with fail
    refine (none_any _).mono ?_
    rintro e w2 ⟨rfl, k⟩
    have BX2 := kept (BX1.out.next k)
    clear k u0 u1 v0 v1 z0 z1 f0 f1
    obtain ⟨u0, u1, v0, v1, z0, z1, f0, f1⟩ := BX2.out.cells
    go_wp2
    exact bodyPost_ret (v := .agg #[.int .i64 1, .int .i64 0]) (by simp [results, Try.results79, go_sem, z0, z1]) rfl ⟨rfl, BX2.out.ends _ _⟩
  · have h2 : t < s := by omega
    have h3 : p ≤ q := by omega
    clear h
    go_enter Try.func79, Try.ntmps79
    go_wp2_with fail
    refine (empty_any _ _ _).mono ?_
    rintro e w1 ⟨rfl, k⟩
    have BX1 := kept (Box3.start k)
    clear k
    obtain ⟨u0, u1, v0, v1, z0, z1, f0, f1⟩ := BX1.out.cells
    go_wp2_with fail
    refine (empty_any _ _ _).mono ?_
    rintro e w2 ⟨rfl, k⟩
    have BX2 := kept (BX1.out.next k)
    clear k u0 u1 v0 v1 z0 z1 f0 f1
    obtain ⟨u0, u1, v0, v1, z0, z1, f0, f1⟩ := BX2.out.cells
    go_wp2_with fail
    refine (none_any _).mono ?_
    rintro e w3 ⟨rfl, k⟩
    have BX3 := kept (BX2.out.next k)
    clear k u0 u1 v0 v1 z0 z1 f0 f1
    obtain ⟨u0, u1, v0, v1, z0, z1, f0, f1⟩ := BX3.out.cells
    go_wp2
    exact bodyPost_ret (v := .agg #[.int .i64 1, .int .i64 0]) (by simp [results, Try.results79, go_sem, z0, z1]) rfl ⟨rfl, BX3.out.ends _ _⟩

set_option maxHeartbeats 8000000 in
theorem cut_some (num p q s t : Int) (hp : inI p = true) (hq : inI q = true) (hs : inI s = true) (ht : inI t = true) (h1 : p ≤ q) (h2 : s ≤ t) (w : World) :
    Calls Try.prog 79 #[.int .i64 num, .agg #[.int .i64 p, .int .i64 q], .agg #[.int .i64 s, .int .i64 t]] w fun e w' => e = .returned (.agg #[.int .i64 (Iv.cut num ⟨p, q⟩ ⟨s, t⟩).lo, .int .i64 (Iv.cut num ⟨p, q⟩ ⟨s, t⟩).hi]) ∧ Keeps w w' [] := by
  rw [inI_iff] at hp hq hs ht
  obtain ⟨r, hr⟩ : ∃ r, (Iv.cut num ⟨p, q⟩ ⟨s, t⟩) = r := ⟨_, rfl⟩
  rw [hr]
  rw [cut_open num p q s t h1 h2] at hr
  by_cases n0 : num = 0
  · subst n0
    rw [if_pos rfl] at hr
    rcases Bool.eq_false_or_eq_true (t == Iv.MIN) with hm | hm
    · have hm' : t = Iv.MIN := by simpa using hm
      rw [if_pos hm'] at hr
      subst hr
      have hmm : (t == -9223372036854775808) = true := hm
      clear hm' hm
      go_enter Try.func79, Try.ntmps79
      go_wp2_with fail
      refine (empty_any _ _ _).mono ?_
      rintro e w1 ⟨rfl, k⟩
      have BX1 := kept (Box3.start k)
      clear k
      obtain ⟨u0, u1, v0, v1, z0, z1, f0, f1⟩ := BX1.out.cells
      go_wp2_with fail
      refine (empty_any _ _ _).mono ?_
      rintro e w2 ⟨rfl, k⟩
      have BX2 := kept (BX1.out.next k)
      clear k u0 u1 v0 v1 z0 z1 f0 f1
      obtain ⟨u0, u1, v0, v1, z0, z1, f0, f1⟩ := BX2.out.cells
      go_wp2_with fail
      refine (none_any _).mono ?_
      rintro e w3 ⟨rfl, k⟩
      have BX3 := kept (BX2.out.next k)
      clear k u0 u1 v0 v1 z0 z1 f0 f1
      obtain ⟨u0, u1, v0, v1, z0, z1, f0, f1⟩ := BX3.out.cells
      go_wp2
      exact bodyPost_ret (v := .agg #[.int .i64 1, .int .i64 0]) (by simp [results, Try.results79, go_sem, z0, z1]) rfl ⟨rfl, BX3.out.ends _ _⟩
    · have hm' : ¬ t = Iv.MIN := by simpa using hm
      rw [if_neg hm'] at hr
      have hmm : (t == -9223372036854775808) = false := hm
      have hlt : -9223372036854775808 < t := by unfold Iv.MIN at hm'; omega
      have C := kept (fun w => made_r p (min q (t - 1)) r hr.symm w)
      clear hr hm hm'
      by_cases hc : q ≤ t - 1
      · have C' := kept (fun w => by have := C.out w; rw [show min q (t - 1) = q by omega] at this; exact this)
        clear C
        go_enter Try.func79, Try.ntmps79
        go_wp2_with fail
        refine (empty_any _ _ _).mono ?_
        rintro e w1 ⟨rfl, k⟩
        have BX1 := kept (Box3.start k)
        clear k
        obtain ⟨u0, u1, v0, v1, z0, z1, f0, f1⟩ := BX1.out.cells
        go_wp2_with fail
        refine (empty_any _ _ _).mono ?_
        rintro e w2 ⟨rfl, k⟩
        have BX2 := kept (BX1.out.next k)
        clear k u0 u1 v0 v1 z0 z1 f0 f1
        obtain ⟨u0, u1, v0, v1, z0, z1, f0, f1⟩ := BX2.out.cells
        go_wp2_with fail
        refine (C'.out _).mono ?_
        rintro e w3 ⟨rfl, k⟩
        have BX3 := kept (BX2.out.next k)
        clear k u0 u1 v0 v1 z0 z1 f0 f1
        obtain ⟨u0, u1, v0, v1, z0, z1, f0, f1⟩ := BX3.out.cells
        go_wp2
        exact bodyPost_ret (v := .agg #[.int .i64 r.lo, .int .i64 r.hi]) (by simp [results, Try.results79, go_sem, z0, z1]) rfl ⟨rfl, BX3.out.ends _ _⟩
      · have C' := kept (fun w => by have := C.out w; rw [show min q (t - 1) = t - 1 by omega] at this; exact this)
        clear C
        go_enter Try.func79, Try.ntmps79
        go_wp2_with fail
        refine (empty_any _ _ _).mono ?_
        rintro e w1 ⟨rfl, k⟩
        have BX1 := kept (Box3.start k)
        clear k
        obtain ⟨u0, u1, v0, v1, z0, z1, f0, f1⟩ := BX1.out.cells
        go_wp2_with fail
        refine (empty_any _ _ _).mono ?_
        rintro e w2 ⟨rfl, k⟩
        have BX2 := kept (BX1.out.next k)
        clear k u0 u1 v0 v1 z0 z1 f0 f1
        obtain ⟨u0, u1, v0, v1, z0, z1, f0, f1⟩ := BX2.out.cells
        go_wp2_with fail
        refine (C'.out _).mono ?_
        rintro e w3 ⟨rfl, k⟩
        have BX3 := kept (BX2.out.next k)
        clear k u0 u1 v0 v1 z0 z1 f0 f1
        obtain ⟨u0, u1, v0, v1, z0, z1, f0, f1⟩ := BX3.out.cells
        go_wp2
        exact bodyPost_ret (v := .agg #[.int .i64 r.lo, .int .i64 r.hi]) (by simp [results, Try.results79, go_sem, z0, z1]) rfl ⟨rfl, BX3.out.ends _ _⟩
  rw [if_neg n0] at hr
  by_cases n1 : num = 1
  · subst n1
    rw [if_pos rfl] at hr
    have C := kept (fun w => made_r p (min q t) r hr.symm w)
    clear hr
    by_cases hc : q ≤ t
    · have C' := kept (fun w => by have := C.out w; rw [show min q t = q by omega] at this; exact this)
      clear C
      go_enter Try.func79, Try.ntmps79
      go_wp2_with fail
      refine (empty_any _ _ _).mono ?_
      rintro e w1 ⟨rfl, k⟩
      have BX1 := kept (Box3.start k)
      clear k
      obtain ⟨u0, u1, v0, v1, z0, z1, f0, f1⟩ := BX1.out.cells
      go_wp2_with fail
      refine (empty_any _ _ _).mono ?_
      rintro e w2 ⟨rfl, k⟩
      have BX2 := kept (BX1.out.next k)
      clear k u0 u1 v0 v1 z0 z1 f0 f1
      obtain ⟨u0, u1, v0, v1, z0, z1, f0, f1⟩ := BX2.out.cells
      go_wp2_with fail
      refine (C'.out _).mono ?_
      rintro e w3 ⟨rfl, k⟩
      have BX3 := kept (BX2.out.next k)
      clear k u0 u1 v0 v1 z0 z1 f0 f1
      obtain ⟨u0, u1, v0, v1, z0, z1, f0, f1⟩ := BX3.out.cells
      go_wp2
      exact bodyPost_ret (v := .agg #[.int .i64 r.lo, .int .i64 r.hi]) (by simp [results, Try.results79, go_sem, z0, z1]) rfl ⟨rfl, BX3.out.ends _ _⟩
    · have C' := kept (fun w => by have := C.out w; rw [show min q t = t by omega] at this; exact this)
      clear C
      go_enter Try.func79, Try.ntmps79
      go_wp2_with fail
      refine (empty_any _ _ _).mono ?_
      rintro e w1 ⟨rfl, k⟩
      have BX1 := kept (Box3.start k)
      clear k
      obtain ⟨u0, u1, v0, v1, z0, z1, f0, f1⟩ := BX1.out.cells
      go_wp2_with fail
      refine (empty_any _ _ _).mono ?_
      rintro e w2 ⟨rfl, k⟩
      have BX2 := kept (BX1.out.next k)
      clear k u0 u1 v0 v1 z0 z1 f0 f1
      obtain ⟨u0, u1, v0, v1, z0, z1, f0, f1⟩ := BX2.out.cells
      go_wp2_with fail
      refine (C'.out _).mono ?_
      rintro e w3 ⟨rfl, k⟩
      have BX3 := kept (BX2.out.next k)
      clear k u0 u1 v0 v1 z0 z1 f0 f1
      obtain ⟨u0, u1, v0, v1, z0, z1, f0, f1⟩ := BX3.out.cells
      go_wp2
      exact bodyPost_ret (v := .agg #[.int .i64 r.lo, .int .i64 r.hi]) (by simp [results, Try.results79, go_sem, z0, z1]) rfl ⟨rfl, BX3.out.ends _ _⟩
  rw [if_neg n1] at hr
  by_cases n2 : num = 2
  · subst n2
    rw [if_pos rfl] at hr
    have C := kept (fun w => meet_any p q s t w)
    rw [hr] at C
    clear hr
    go_enter Try.func79, Try.ntmps79
    go_wp2_with fail
    refine (empty_any _ _ _).mono ?_
    rintro e w1 ⟨rfl, k⟩
    have BX1 := kept (Box3.start k)
    clear k
    obtain ⟨u0, u1, v0, v1, z0, z1, f0, f1⟩ := BX1.out.cells
    go_wp2_with fail
    refine (empty_any _ _ _).mono ?_
    rintro e w2 ⟨rfl, k⟩
    have BX2 := kept (BX1.out.next k)
    clear k u0 u1 v0 v1 z0 z1 f0 f1
    obtain ⟨u0, u1, v0, v1, z0, z1, f0, f1⟩ := BX2.out.cells
    go_wp2_with fail
    refine (C.out _).mono ?_
    rintro e w3 ⟨rfl, k⟩
    have BX3 := kept (BX2.out.next k)
    clear k u0 u1 v0 v1 z0 z1 f0 f1
    obtain ⟨u0, u1, v0, v1, z0, z1, f0, f1⟩ := BX3.out.cells
    go_wp2
    exact bodyPost_ret (v := .agg #[.int .i64 r.lo, .int .i64 r.hi]) (by simp [results, Try.results79, go_sem, z0, z1]) rfl ⟨rfl, BX3.out.ends _ _⟩
  rw [if_neg n2] at hr
  by_cases n3 : num = 3
  · subst n3
    rw [if_pos rfl] at hr
    have C := kept (fun w => made_r (max p s) q r hr.symm w)
    clear hr
    by_cases hc : s ≤ p
    · have C' := kept (fun w => by have := C.out w; rw [show max p s = p by omega] at this; exact this)
      clear C
      go_enter Try.func79, Try.ntmps79
      go_wp2_with fail
      refine (empty_any _ _ _).mono ?_
      rintro e w1 ⟨rfl, k⟩
      have BX1 := kept (Box3.start k)
      clear k
      obtain ⟨u0, u1, v0, v1, z0, z1, f0, f1⟩ := BX1.out.cells
      go_wp2_with fail
      refine (empty_any _ _ _).mono ?_
      rintro e w2 ⟨rfl, k⟩
      have BX2 := kept (BX1.out.next k)
      clear k u0 u1 v0 v1 z0 z1 f0 f1
      obtain ⟨u0, u1, v0, v1, z0, z1, f0, f1⟩ := BX2.out.cells
      go_wp2_with fail
      refine (C'.out _).mono ?_
      rintro e w3 ⟨rfl, k⟩
      have BX3 := kept (BX2.out.next k)
      clear k u0 u1 v0 v1 z0 z1 f0 f1
      obtain ⟨u0, u1, v0, v1, z0, z1, f0, f1⟩ := BX3.out.cells
      go_wp2
      exact bodyPost_ret (v := .agg #[.int .i64 r.lo, .int .i64 r.hi]) (by simp [results, Try.results79, go_sem, z0, z1]) rfl ⟨rfl, BX3.out.ends _ _⟩
    · have C' := kept (fun w => by have := C.out w; rw [show max p s = s by omega] at this; exact this)
      clear C
      go_enter Try.func79, Try.ntmps79
      go_wp2_with fail
      refine (empty_any _ _ _).mono ?_
      rintro e w1 ⟨rfl, k⟩
      have BX1 := kept (Box3.start k)
      clear k
      obtain ⟨u0, u1, v0, v1, z0, z1, f0, f1⟩ := BX1.out.cells
      go_wp2_with fail
      refine (empty_any _ _ _).mono ?_
      rintro e w2 ⟨rfl, k⟩
      have BX2 := kept (BX1.out.next k)
      clear k u0 u1 v0 v1 z0 z1 f0 f1
      obtain ⟨u0, u1, v0, v1, z0, z1, f0, f1⟩ := BX2.out.cells
      go_wp2_with fail
      refine (C'.out _).mono ?_
      rintro e w3 ⟨rfl, k⟩
      have BX3 := kept (BX2.out.next k)
      clear k u0 u1 v0 v1 z0 z1 f0 f1
      obtain ⟨u0, u1, v0, v1, z0, z1, f0, f1⟩ := BX3.out.cells
      go_wp2
      exact bodyPost_ret (v := .agg #[.int .i64 r.lo, .int .i64 r.hi]) (by simp [results, Try.results79, go_sem, z0, z1]) rfl ⟨rfl, BX3.out.ends _ _⟩
  rw [if_neg n3] at hr
  by_cases n4 : num = 4
  · subst n4
    rw [if_pos rfl] at hr
    rcases Bool.eq_false_or_eq_true (s == Iv.MAX) with hm | hm
    · have hm' : s = Iv.MAX := by simpa using hm
      rw [if_pos hm'] at hr
      subst hr
      have hmm : (s == 9223372036854775807) = true := hm
      clear hm' hm
      go_enter Try.func79, Try.ntmps79
      go_wp2_with fail
      refine (empty_any _ _ _).mono ?_
      rintro e w1 ⟨rfl, k⟩
      have BX1 := kept (Box3.start k)
      clear k
      obtain ⟨u0, u1, v0, v1, z0, z1, f0, f1⟩ := BX1.out.cells
      go_wp2_with fail
      refine (empty_any _ _ _).mono ?_
      rintro e w2 ⟨rfl, k⟩
      have BX2 := kept (BX1.out.next k)
      clear k u0 u1 v0 v1 z0 z1 f0 f1
      obtain ⟨u0, u1, v0, v1, z0, z1, f0, f1⟩ := BX2.out.cells
      go_wp2_with fail
      refine (none_any _).mono ?_
      rintro e w3 ⟨rfl, k⟩
      have BX3 := kept (BX2.out.next k)
      clear k u0 u1 v0 v1 z0 z1 f0 f1
      obtain ⟨u0, u1, v0, v1, z0, z1, f0, f1⟩ := BX3.out.cells
      go_wp2
      exact bodyPost_ret (v := .agg #[.int .i64 1, .int .i64 0]) (by simp [results, Try.results79, go_sem, z0, z1]) rfl ⟨rfl, BX3.out.ends _ _⟩
    · have hm' : ¬ s = Iv.MAX := by simpa using hm
      rw [if_neg hm'] at hr
      have hmm : (s == 9223372036854775807) = false := hm
      have hlt : s < 9223372036854775807 := by unfold Iv.MAX at hm'; omega
      have C := kept (fun w => made_r (max p (s + 1)) q r hr.symm w)
      clear hr hm hm'
      by_cases hc : s + 1 ≤ p
      · have C' := kept (fun w => by have := C.out w; rw [show max p (s + 1) = p by omega] at this; exact this)
        clear C
        go_enter Try.func79, Try.ntmps79
        go_wp2_with fail
        refine (empty_any _ _ _).mono ?_
        rintro e w1 ⟨rfl, k⟩
        have BX1 := kept (Box3.start k)
        clear k
        obtain ⟨u0, u1, v0, v1, z0, z1, f0, f1⟩ := BX1.out.cells
        go_wp2_with fail
        refine (empty_any _ _ _).mono ?_
        rintro e w2 ⟨rfl, k⟩
        have BX2 := kept (BX1.out.next k)
        clear k u0 u1 v0 v1 z0 z1 f0 f1
        obtain ⟨u0, u1, v0, v1, z0, z1, f0, f1⟩ := BX2.out.cells
        go_wp2_with fail
        refine (C'.out _).mono ?_
        rintro e w3 ⟨rfl, k⟩
        have BX3 := kept (BX2.out.next k)
        clear k u0 u1 v0 v1 z0 z1 f0 f1
        obtain ⟨u0, u1, v0, v1, z0, z1, f0, f1⟩ := BX3.out.cells
        go_wp2
        exact bodyPost_ret (v := .agg #[.int .i64 r.lo, .int .i64 r.hi]) (by simp [results, Try.results79, go_sem, z0, z1]) rfl ⟨rfl, BX3.out.ends _ _⟩
      · have C' := kept (fun w => by have := C.out w; rw [show max p (s + 1) = s + 1 by omega] at this; exact this)
        clear C
        go_enter Try.func79, Try.ntmps79
        go_wp2_with fail
        refine (empty_any _ _ _).mono ?_
        rintro e w1 ⟨rfl, k⟩
        have BX1 := kept (Box3.start k)
        clear k
        obtain ⟨u0, u1, v0, v1, z0, z1, f0, f1⟩ := BX1.out.cells
        go_wp2_with fail
        refine (empty_any _ _ _).mono ?_
        rintro e w2 ⟨rfl, k⟩
        have BX2 := kept (BX1.out.next k)
        clear k u0 u1 v0 v1 z0 z1 f0 f1
        obtain ⟨u0, u1, v0, v1, z0, z1, f0, f1⟩ := BX2.out.cells
        go_wp2_with fail
        refine (C'.out _).mono ?_
        rintro e w3 ⟨rfl, k⟩
        have BX3 := kept (BX2.out.next k)
        clear k u0 u1 v0 v1 z0 z1 f0 f1
        obtain ⟨u0, u1, v0, v1, z0, z1, f0, f1⟩ := BX3.out.cells
        go_wp2
        exact bodyPost_ret (v := .agg #[.int .i64 r.lo, .int .i64 r.hi]) (by simp [results, Try.results79, go_sem, z0, z1]) rfl ⟨rfl, BX3.out.ends _ _⟩
  rw [if_neg n4] at hr
  subst hr
  have e0 : (num == 0) = false := by simpa using n0
  have e1 : (num == 1) = false := by simpa using n1
  have e2 : (num == 2) = false := by simpa using n2
  have e3 : (num == 3) = false := by simpa using n3
  have e4 : (num == 4) = false := by simpa using n4
  clear n0 n1 n2 n3 n4
  go_enter Try.func79, Try.ntmps79
  go_wp2_with fail
  refine (empty_any _ _ _).mono ?_
  rintro e w1 ⟨rfl, k⟩
  have BX1 := kept (Box3.start k)
  clear k
  obtain ⟨u0, u1, v0, v1, z0, z1, f0, f1⟩ := BX1.out.cells
  go_wp2_with fail
  refine (empty_any _ _ _).mono ?_
  rintro e w2 ⟨rfl, k⟩
  have BX2 := kept (BX1.out.next k)
  clear k u0 u1 v0 v1 z0 z1 f0 f1
  obtain ⟨u0, u1, v0, v1, z0, z1, f0, f1⟩ := BX2.out.cells
  go_wp2
  exact bodyPost_ret (v := .agg #[.int .i64 p, .int .i64 q]) (by simp [results, Try.results79, go_sem, z0, z1]) rfl ⟨rfl, BX2.out.ends _ _⟩

theorem cut_any (num : Int) (a b : Iv.R) (wa : Iv.Wf a) (wb : Iv.Wf b) (w : World) :
    Calls Try.prog 79 #[.int .i64 num, .agg #[.int .i64 a.lo, .int .i64 a.hi], .agg #[.int .i64 b.lo, .int .i64 b.hi]] w fun e w' => e = .returned (.agg #[.int .i64 (Iv.cut num a b).lo, .int .i64 (Iv.cut num a b).hi]) ∧ Keeps w w' [] := by
  obtain ⟨p, q⟩ := a
  obtain ⟨s, t⟩ := b
  by_cases h : q < p ∨ t < s
  · have e : Iv.cut num ⟨p, q⟩ ⟨s, t⟩ = Iv.none := by unfold Iv.cut; rw [if_pos h]
    rw [e]
    exact cut_none num p q s t h w
  · exact cut_some num p q s t (inI_iff.2 wa.1) (inI_iff.2 wa.2) (inI_iff.2 wb.1) (inI_iff.2 wb.2) (by omega) (by omega) w
end Go.Proofs.Ytppidnjhdefbiaa
