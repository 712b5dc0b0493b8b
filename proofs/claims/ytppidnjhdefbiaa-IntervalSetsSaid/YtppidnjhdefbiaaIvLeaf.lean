/- Package interval: the contracts of its small functions. -/
import Derived.Test.YtppidnjhdefbiaaFactsMem
import Derived.Test.YtppidnjhdefbiaaIvMath
namespace Go.Proofs.Ytppidnjhdefbiaa
open Go.RowKit
set_option linter.unusedVariables false

theorem Keeps.new {w w' : World} {cs : Array Value} {t : TypeId} {S : List Nat} (h : Keeps (w.alloc (.cells cs t)) w' S) (hs : w.heap.size ∉ S) : Blk w' w.heap.size t cs := (Blk.new w t cs).keep h hs
theorem Keeps.next {a b c : World} (h : Keeps a b []) (k : Keeps b c []) : Keeps a c [] := h.trans k

theorem empty_any (l h : Int) (w : World) : Calls Try.prog 65 #[.agg #[.int .i64 l, .int .i64 h]] w fun e w' => e = .returned (.bool (decide (h < l))) ∧ Keeps w w' [] := by
  go_enter Try.func65, Try.ntmps65
  go_wp2
  go_ret
  exact ⟨rfl, (Keeps.refl w []).alloc _⟩

theorem none_any (w : World) : Calls Try.prog 72 #[] w fun e w' => e = .returned (.agg #[.int .i64 1, .int .i64 0]) ∧ Keeps w w' [] := by
  go_enter Try.func72, Try.ntmps72
  go_wp2
  exact bodyPost_ret (v := .agg #[.int .i64 1, .int .i64 0]) (by simp [results, Try.results72, go_sem]) rfl ⟨rfl, (Keeps.refl w []).alloc _⟩

theorem made_any (l h : Int) (w : World) : Calls Try.prog 93 #[.int .i64 l, .int .i64 h] w fun e w' => e = .returned (.agg #[.int .i64 (Iv.made l h).lo, .int .i64 (Iv.made l h).hi]) ∧ Keeps w w' [] := by
  by_cases hc : h < l
  · have e : Iv.made l h = Iv.none := by unfold Iv.made; rw [if_pos hc]
    rw [e]
    clear e
    go_enter Try.func93, Try.ntmps93
    go_wp2_with fail
    refine (none_any _).mono ?_
    rintro e w' ⟨rfl, k⟩
    have b := k.new (by simp)
    have c0 := b.cell 0
    have c1 := b.cell 1
    simp at c0 c1
    have f0 := b.frozen 0
    have f1 := b.frozen 1
    have K := kept k
    clear k b
    go_wp2
    exact bodyPost_ret (v := .agg #[.int .i64 1, .int .i64 0]) (by simp [results, Try.results93, go_sem, c0, c1]) rfl ⟨rfl, ((((Keeps.refl w []).alloc _).next K.out).setCell (.inr (Nat.le_refl _)) _).setCell (.inr (Nat.le_refl _)) _⟩
  · have e : Iv.made l h = ⟨l, h⟩ := by unfold Iv.made; rw [if_neg hc]
    rw [e]
    clear e
    go_enter Try.func93, Try.ntmps93
    go_wp2
    exact bodyPost_ret (v := .agg #[.int .i64 l, .int .i64 h]) (by simp [results, Try.results93, go_sem]) rfl ⟨rfl, (Keeps.refl w []).alloc _⟩

theorem of_any (n : Int) (w : World) : Calls Try.prog 69 #[.int .i64 n] w fun e w' => e = .returned (.agg #[.int .i64 n, .int .i64 n]) ∧ Keeps w w' [] := by
  go_enter Try.func69, Try.ntmps69
  go_wp2
  exact bodyPost_ret (v := .agg #[.int .i64 n, .int .i64 n]) (by simp [results, Try.results69, go_sem]) rfl ⟨rfl, (Keeps.refl w []).alloc _⟩

theorem all_any (w : World) : Calls Try.prog 70 #[] w fun e w' => e = .returned (.agg #[.int .i64 Iv.MIN, .int .i64 Iv.MAX]) ∧ Keeps w w' [] := by
  go_enter Try.func70, Try.ntmps70
  go_wp2
  exact bodyPost_ret (v := .agg #[.int .i64 Iv.MIN, .int .i64 Iv.MAX]) (by simp [results, Try.results70, go_sem, Iv.MIN, Iv.MAX]) rfl ⟨rfl, (Keeps.refl w []).alloc _⟩

theorem single_any (l h : Int) (w : World) : Calls Try.prog 67 #[.agg #[.int .i64 l, .int .i64 h]] w fun e w' => e = .returned (.tuple #[.int .i64 (if l = h then l else 0), .bool (decide (l = h))]) ∧ Keeps w w' [] := by
  rcases Bool.eq_false_or_eq_true (l == h) with hc | hc
  · have h1 : l = h := by simpa using hc
    subst h1
    go_enter Try.func67, Try.ntmps67
    go_wp2
    go_ret2
    exact ⟨by simp, (Keeps.refl w []).alloc _⟩
  · have h1 : ¬ l = h := by simpa using hc
    have h2 : (l != h) = true := by simpa using h1
    go_enter Try.func67, Try.ntmps67
    go_wp2
    go_ret2
    exact ⟨by simp, (Keeps.refl w []).alloc _⟩

theorem sums_any (op : Int) (w : World) : Calls Try.prog 94 #[.int .i64 op] w fun e w' => e = .returned (.bool (Iv.sums op)) ∧ w = w' := by
  rcases Bool.eq_false_or_eq_true (op == 2) with h2 | h2
  · have e2 : op = 2 := by simpa using h2
    subst e2
    go_enter Try.func94, Try.ntmps94
    go_wp2
    go_ret
    exact ⟨rfl, rfl⟩
  rcases Bool.eq_false_or_eq_true (op == 3) with h3 | h3
  · have e2 : op = 3 := by simpa using h3
    subst e2
    go_enter Try.func94, Try.ntmps94
    go_wp2
    go_ret
    exact ⟨rfl, rfl⟩
  rcases Bool.eq_false_or_eq_true (op == 4) with h4 | h4
  · have e2 : op = 4 := by simpa using h4
    subst e2
    go_enter Try.func94, Try.ntmps94
    go_wp2
    go_ret
    exact ⟨rfl, rfl⟩
  have e2 : Iv.sums op = false := by
    simp at h2 h3 h4
    simp [Iv.sums, h2, h3, h4]
  rw [e2]
  clear e2
  go_enter Try.func94, Try.ntmps94
  go_wp2
  go_ret
  exact ⟨rfl, rfl⟩

theorem nearest_any (b : Bool) (w : World) : Calls Try.prog 101 #[.bool b] w fun e w' => e = .returned (.int .i64 (if b = true then Iv.MIN else Iv.MAX)) ∧ w = w' := by
  cases b
  all_goals
    go_enter Try.func101, Try.ntmps101
    go_wp2
    go_ret
    exact ⟨rfl, rfl⟩

theorem has_any (l h n : Int) (w : World) : Calls Try.prog 64 #[.agg #[.int .i64 l, .int .i64 h], .int .i64 n] w fun e w' => e = .returned (.bool (Iv.has ⟨l, h⟩ n)) ∧ Keeps w w' [] := by
  rcases Bool.eq_false_or_eq_true (decide (l ≤ n)) with h1 | h1
  all_goals
    have e : Iv.has ⟨l, h⟩ n = (decide (l ≤ n) && decide (n ≤ h)) := rfl
    rw [h1] at e
    rw [e]
    clear e
    go_enter Try.func64, Try.ntmps64
    go_wp2
    go_ret
    exact ⟨by simp, (Keeps.refl w []).alloc _⟩

theorem made_r (p q : Int) (r : Iv.R) (hr : r = Iv.made p q) (w : World) : Calls Try.prog 93 #[.int .i64 p, .int .i64 q] w fun e w' => e = .returned (.agg #[.int .i64 r.lo, .int .i64 r.hi]) ∧ Keeps w w' [] := by
  subst hr
  exact made_any p q w

theorem meet_any (p q s t : Int) (w : World) : Calls Try.prog 62 #[.agg #[.int .i64 p, .int .i64 q], .agg #[.int .i64 s, .int .i64 t]] w fun e w' => e = .returned (.agg #[.int .i64 (Iv.meet ⟨p, q⟩ ⟨s, t⟩).lo, .int .i64 (Iv.meet ⟨p, q⟩ ⟨s, t⟩).hi]) ∧ Keeps w w' [] := by
  obtain ⟨r, hr⟩ : ∃ r, Iv.meet ⟨p, q⟩ ⟨s, t⟩ = r := ⟨_, rfl⟩
  rw [hr]
  by_cases h1 : s ≤ p <;> by_cases h2 : q ≤ t
  · have C := kept (fun w => made_r p q r (by rw [← hr]; show Iv.made (max p s) (min q t) = _; rw [show max p s = p by omega, show min q t = q by omega]) w)
    clear hr
    go_enter Try.func62, Try.ntmps62
    go_wp2_with fail
    refine (C.out _).mono ?_
    rintro e w' ⟨rfl, k⟩
    have b := k.new (by simp)
    have c0 := b.cell 0
    have c1 := b.cell 1
    simp at c0 c1
    have f0 := b.frozen 0
    have f1 := b.frozen 1
    simp at f0 f1
    have K := kept k
    clear k b
    go_wp2
    exact bodyPost_ret (v := .agg #[.int .i64 r.lo, .int .i64 r.hi]) (by simp [results, Try.results62, go_sem, c0, c1]) rfl ⟨rfl, ((((((Keeps.refl w []).alloc _).alloc _).alloc _).next K.out).setCell (.inr (by simp; omega)) _).setCell (.inr (by simp; omega)) _⟩
  · have C := kept (fun w => made_r p t r (by rw [← hr]; show Iv.made (max p s) (min q t) = _; rw [show max p s = p by omega, show min q t = t by omega]) w)
    clear hr
    go_enter Try.func62, Try.ntmps62
    go_wp2_with fail
    refine (C.out _).mono ?_
    rintro e w' ⟨rfl, k⟩
    have b := k.new (by simp)
    have c0 := b.cell 0
    have c1 := b.cell 1
    simp at c0 c1
    have f0 := b.frozen 0
    have f1 := b.frozen 1
    simp at f0 f1
    have K := kept k
    clear k b
    go_wp2
    exact bodyPost_ret (v := .agg #[.int .i64 r.lo, .int .i64 r.hi]) (by simp [results, Try.results62, go_sem, c0, c1]) rfl ⟨rfl, ((((((Keeps.refl w []).alloc _).alloc _).alloc _).next K.out).setCell (.inr (by simp; omega)) _).setCell (.inr (by simp; omega)) _⟩
  · have C := kept (fun w => made_r s q r (by rw [← hr]; show Iv.made (max p s) (min q t) = _; rw [show max p s = s by omega, show min q t = q by omega]) w)
    clear hr
    go_enter Try.func62, Try.ntmps62
    go_wp2_with fail
    refine (C.out _).mono ?_
    rintro e w' ⟨rfl, k⟩
    have b := k.new (by simp)
    have c0 := b.cell 0
    have c1 := b.cell 1
    simp at c0 c1
    have f0 := b.frozen 0
    have f1 := b.frozen 1
    simp at f0 f1
    have K := kept k
    clear k b
    go_wp2
    exact bodyPost_ret (v := .agg #[.int .i64 r.lo, .int .i64 r.hi]) (by simp [results, Try.results62, go_sem, c0, c1]) rfl ⟨rfl, ((((((Keeps.refl w []).alloc _).alloc _).alloc _).next K.out).setCell (.inr (by simp; omega)) _).setCell (.inr (by simp; omega)) _⟩
  · have C := kept (fun w => made_r s t r (by rw [← hr]; show Iv.made (max p s) (min q t) = _; rw [show max p s = s by omega, show min q t = t by omega]) w)
    clear hr
    go_enter Try.func62, Try.ntmps62
    go_wp2_with fail
    refine (C.out _).mono ?_
    rintro e w' ⟨rfl, k⟩
    have b := k.new (by simp)
    have c0 := b.cell 0
    have c1 := b.cell 1
    simp at c0 c1
    have f0 := b.frozen 0
    have f1 := b.frozen 1
    simp at f0 f1
    have K := kept k
    clear k b
    go_wp2
    exact bodyPost_ret (v := .agg #[.int .i64 r.lo, .int .i64 r.hi]) (by simp [results, Try.results62, go_sem, c0, c1]) rfl ⟨rfl, ((((((Keeps.refl w []).alloc _).alloc _).alloc _).next K.out).setCell (.inr (by simp; omega)) _).setCell (.inr (by simp; omega)) _⟩

theorem box3 {w w' : World} {A B C : Array Value} {x y z : TypeId} (k : Keeps (((w.alloc (.cells A x)).alloc (.cells B y)).alloc (.cells C z)) w' []) : Keeps w w' [] ∧ Blk w' w.heap.size x A ∧ Blk w' (w.heap.size + 1) y B ∧ Blk w' (w.heap.size + 1 + 1) z C := by
  refine ⟨((((Keeps.refl w []).alloc _).alloc _).alloc _).next k, ?_, ?_, ?_⟩
  · exact ((Blk.new w x A).keep (((Keeps.refl _ []).alloc _).alloc _) (by simp)).keep k (by simp)
  · have h := ((Blk.new (w.alloc (.cells A x)) y B).keep ((Keeps.refl _ []).alloc (.cells C z)) (by simp)).keep k (by simp)
    simpa using h
  · have h := (Blk.new ((w.alloc (.cells A x)).alloc (.cells B y)) z C).keep k (by simp)
    simpa using h

set_option maxHeartbeats 1000000 in
theorem join_any (p q s t : Int) (w : World) : Calls Try.prog 63 #[.agg #[.int .i64 p, .int .i64 q], .agg #[.int .i64 s, .int .i64 t]] w fun e w' => e = .returned (.agg #[.int .i64 (Iv.join ⟨p, q⟩ ⟨s, t⟩).lo, .int .i64 (Iv.join ⟨p, q⟩ ⟨s, t⟩).hi]) ∧ Keeps w w' [] := by
  by_cases hp : q < p
  · obtain ⟨r, hr⟩ : ∃ r, Iv.join ⟨p, q⟩ ⟨s, t⟩ = r := ⟨_, rfl⟩
    rw [hr]
    have C := kept (fun w => made_r s t r (by rw [← hr]; show _ = _; unfold Iv.join; rw [if_pos hp]) w)
    clear hr
    go_enter Try.func63, Try.ntmps63
    go_wp2_with fail
    refine (empty_any _ _ _).mono ?_
    rintro e w' ⟨rfl, k⟩
    obtain ⟨k, b0, b1, b2⟩ := box3 k
    have x0 := b1.cell 0
    have x1 := b1.cell 1
    simp at x0 x1
    have K := kept k
    have B := kept b2
    clear k b0 b1 b2
    go_wp2_with fail
    refine (C.out _).mono ?_
    rintro e w'' ⟨rfl, k⟩
    have b := B.out.keep k (by simp)
    have c0 := b.cell 0
    have c1 := b.cell 1
    simp at c0 c1
    have f0 := b.frozen 0
    have f1 := b.frozen 1
    have K2 := kept k
    clear k b x0 x1
    go_wp2
    exact bodyPost_ret (v := .agg #[.int .i64 r.lo, .int .i64 r.hi]) (by simp [results, Try.results63, go_sem, c0, c1]) rfl ⟨rfl, ((K.out.next K2.out).setCell (.inr (by simp; omega)) _).setCell (.inr (by simp; omega)) _⟩
  have hp' : p ≤ q := by omega
  by_cases hs : t < s
  · have e : Iv.join ⟨p, q⟩ ⟨s, t⟩ = ⟨p, q⟩ := by
      unfold Iv.join
      rw [if_neg hp, if_pos hs]
    rw [e]
    clear e
    go_enter Try.func63, Try.ntmps63
    go_wp2_with fail
    refine (empty_any _ _ _).mono ?_
    rintro e w' ⟨rfl, k⟩
    obtain ⟨k, b0, b1, b2⟩ := box3 k
    have x0 := b1.cell 0
    have x1 := b1.cell 1
    have y0 := b0.cell 0
    have y1 := b0.cell 1
    simp at x0 x1 y0 y1
    have K := kept k
    have B := kept b2
    have B0 := kept b0
    clear k b0 b1 b2
    go_wp2_with fail
    refine (empty_any _ _ _).mono ?_
    rintro e w'' ⟨rfl, k⟩
    have b := B.out.keep k (by simp)
    have c0 := b.cell 0
    have c1 := b.cell 1
    simp at c0 c1
    have f0 := b.frozen 0
    have f1 := b.frozen 1
    have b := B0.out.keep k (by simp)
    have z0 := b.cell 0
    have z1 := b.cell 1
    simp at z0 z1
    have K2 := kept k
    clear k b x0 x1 y0 y1
    go_wp2
    exact bodyPost_ret (v := .agg #[.int .i64 p, .int .i64 q]) (by simp [results, Try.results63, go_sem, c0, c1]) rfl ⟨rfl, ((K.out.next K2.out).setCell (.inr (by simp; omega)) _).setCell (.inr (by simp; omega)) _⟩
  have hs' : s ≤ t := by omega
  by_cases h1 : p ≤ s <;> by_cases h2 : t ≤ q
  · have e : Iv.join ⟨p, q⟩ ⟨s, t⟩ = ⟨p, q⟩ := by
      unfold Iv.join
      simp only
      rw [if_neg hp, if_neg hs, show min p s = p by omega, show max q t = q by omega]
    rw [e]
    clear e
    go_enter Try.func63, Try.ntmps63
    go_wp2_with fail
    refine (empty_any _ _ _).mono ?_
    rintro e w' ⟨rfl, k⟩
    obtain ⟨k, b0, b1, b2⟩ := box3 k
    have x0 := b1.cell 0
    have x1 := b1.cell 1
    simp at x0 x1
    have K := kept k
    have B := kept b2
    have B0 := kept b0
    have B1 := kept b1
    clear k b0 b1 b2
    go_wp2_with fail
    refine (empty_any _ _ _).mono ?_
    rintro e w'' ⟨rfl, k⟩
    have b := B.out.keep k (by simp)
    have c0 := b.cell 0
    have c1 := b.cell 1
    simp at c0 c1
    have f0 := b.frozen 0
    have f1 := b.frozen 1
    have b := B0.out.keep k (by simp)
    have z0 := b.cell 0
    have z1 := b.cell 1
    simp at z0 z1
    have b := B1.out.keep k (by simp)
    have u0 := b.cell 0
    have u1 := b.cell 1
    simp at u0 u1
    have K2 := kept k
    clear k b x0 x1
    go_wp2
    exact bodyPost_ret (v := .agg #[.int .i64 p, .int .i64 q]) (by simp [results, Try.results63, go_sem, c0, c1]) rfl ⟨rfl, ((K.out.next K2.out).setCell (.inr (by simp; omega)) _).setCell (.inr (by simp; omega)) _⟩
  · have e : Iv.join ⟨p, q⟩ ⟨s, t⟩ = ⟨p, t⟩ := by
      unfold Iv.join
      simp only
      rw [if_neg hp, if_neg hs, show min p s = p by omega, show max q t = t by omega]
    rw [e]
    clear e
    go_enter Try.func63, Try.ntmps63
    go_wp2_with fail
    refine (empty_any _ _ _).mono ?_
    rintro e w' ⟨rfl, k⟩
    obtain ⟨k, b0, b1, b2⟩ := box3 k
    have x0 := b1.cell 0
    have x1 := b1.cell 1
    simp at x0 x1
    have K := kept k
    have B := kept b2
    have B0 := kept b0
    have B1 := kept b1
    clear k b0 b1 b2
    go_wp2_with fail
    refine (empty_any _ _ _).mono ?_
    rintro e w'' ⟨rfl, k⟩
    have b := B.out.keep k (by simp)
    have c0 := b.cell 0
    have c1 := b.cell 1
    simp at c0 c1
    have f0 := b.frozen 0
    have f1 := b.frozen 1
    have b := B0.out.keep k (by simp)
    have z0 := b.cell 0
    have z1 := b.cell 1
    simp at z0 z1
    have b := B1.out.keep k (by simp)
    have u0 := b.cell 0
    have u1 := b.cell 1
    simp at u0 u1
    have K2 := kept k
    clear k b x0 x1
    go_wp2
    exact bodyPost_ret (v := .agg #[.int .i64 p, .int .i64 t]) (by simp [results, Try.results63, go_sem, c0, c1]) rfl ⟨rfl, ((K.out.next K2.out).setCell (.inr (by simp; omega)) _).setCell (.inr (by simp; omega)) _⟩
  · have e : Iv.join ⟨p, q⟩ ⟨s, t⟩ = ⟨s, q⟩ := by
      unfold Iv.join
      simp only
      rw [if_neg hp, if_neg hs, show min p s = s by omega, show max q t = q by omega]
    rw [e]
    clear e
    go_enter Try.func63, Try.ntmps63
    go_wp2_with fail
    refine (empty_any _ _ _).mono ?_
    rintro e w' ⟨rfl, k⟩
    obtain ⟨k, b0, b1, b2⟩ := box3 k
    have x0 := b1.cell 0
    have x1 := b1.cell 1
    simp at x0 x1
    have K := kept k
    have B := kept b2
    have B0 := kept b0
    have B1 := kept b1
    clear k b0 b1 b2
    go_wp2_with fail
    refine (empty_any _ _ _).mono ?_
    rintro e w'' ⟨rfl, k⟩
    have b := B.out.keep k (by simp)
    have c0 := b.cell 0
    have c1 := b.cell 1
    simp at c0 c1
    have f0 := b.frozen 0
    have f1 := b.frozen 1
    have b := B0.out.keep k (by simp)
    have z0 := b.cell 0
    have z1 := b.cell 1
    simp at z0 z1
    have b := B1.out.keep k (by simp)
    have u0 := b.cell 0
    have u1 := b.cell 1
    simp at u0 u1
    have K2 := kept k
    clear k b x0 x1
    go_wp2
    exact bodyPost_ret (v := .agg #[.int .i64 s, .int .i64 q]) (by simp [results, Try.results63, go_sem, c0, c1]) rfl ⟨rfl, ((K.out.next K2.out).setCell (.inr (by simp; omega)) _).setCell (.inr (by simp; omega)) _⟩
  · have e : Iv.join ⟨p, q⟩ ⟨s, t⟩ = ⟨s, t⟩ := by
      unfold Iv.join
      simp only
      rw [if_neg hp, if_neg hs, show min p s = s by omega, show max q t = t by omega]
    rw [e]
    clear e
    go_enter Try.func63, Try.ntmps63
    go_wp2_with fail
    refine (empty_any _ _ _).mono ?_
    rintro e w' ⟨rfl, k⟩
    obtain ⟨k, b0, b1, b2⟩ := box3 k
    have x0 := b1.cell 0
    have x1 := b1.cell 1
    simp at x0 x1
    have K := kept k
    have B := kept b2
    have B0 := kept b0
    have B1 := kept b1
    clear k b0 b1 b2
    go_wp2_with fail
    refine (empty_any _ _ _).mono ?_
    rintro e w'' ⟨rfl, k⟩
    have b := B.out.keep k (by simp)
    have c0 := b.cell 0
    have c1 := b.cell 1
    simp at c0 c1
    have f0 := b.frozen 0
    have f1 := b.frozen 1
    have b := B0.out.keep k (by simp)
    have z0 := b.cell 0
    have z1 := b.cell 1
    simp at z0 z1
    have b := B1.out.keep k (by simp)
    have u0 := b.cell 0
    have u1 := b.cell 1
    simp at u0 u1
    have K2 := kept k
    clear k b x0 x1
    go_wp2
    exact bodyPost_ret (v := .agg #[.int .i64 s, .int .i64 t]) (by simp [results, Try.results63, go_sem, c0, c1]) rfl ⟨rfl, ((K.out.next K2.out).setCell (.inr (by simp; omega)) _).setCell (.inr (by simp; omega)) _⟩

end Go.Proofs.Ytppidnjhdefbiaa
