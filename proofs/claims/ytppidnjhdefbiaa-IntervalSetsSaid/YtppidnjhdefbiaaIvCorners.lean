/- Package interval: the contract of corners. -/
import Derived.Test.YtppidnjhdefbiaaIvHull
import Derived.Test.YtppidnjhdefbiaaFactsChainWalk
import Derived.Test.YtppidnjhdefbiaaFactsChainWalk
import Derived.Test.YtppidnjhdefbiaaFactsChainWalk
import Derived.Test.YtppidnjhdefbiaaFactsChainWalk
import Derived.Test.YtppidnjhdefbiaaFactsChainWalk
namespace Go.Proofs.Ytppidnjhdefbiaa
open Go.RowKit
set_option linter.unusedVariables false

/-- the k-th end of a range -/
def endOf (r : Iv.R) (k : Nat) : Int := if k = 0 then r.lo else r.hi
/-- the hull after m corners, and whether one didn't fit -/
def cors (op : Int) (a b : Iv.R) : Nat → Iv.R
  | 0 => Iv.none
  | m + 1 => Iv.addn (cors op a b m) (Iv.cex op (endOf a (m / 2)) (endOf b (m % 2)))
def corw (op : Int) (a b : Iv.R) : Nat → Bool
  | 0 => false
  | m + 1 => corw op a b m || !Iv.fit (Iv.ex op (endOf a (m / 2)) (endOf b (m % 2)))
theorem cors4 (op : Int) (a b : Iv.R) : cors op a b 4 = Iv.clip3 op a b := rfl
theorem corw4 (op : Int) (a b : Iv.R) : corw op a b 4 = !Iv.fit4 op a b := by
  show ((((false || !Iv.fit (Iv.ex op a.lo b.lo)) || !Iv.fit (Iv.ex op a.lo b.hi)) || !Iv.fit (Iv.ex op a.hi b.lo)) || !Iv.fit (Iv.ex op a.hi b.hi)) = _
  unfold Iv.fit4
  cases Iv.fit (Iv.ex op a.lo b.lo) <;> cases Iv.fit (Iv.ex op a.lo b.hi) <;> cases Iv.fit (Iv.ex op a.hi b.lo) <;> cases Iv.fit (Iv.ex op a.hi b.hi) <;> rfl

theorem fit_inI (n : Int) : Iv.fit n = inI n := by
  rw [Bool.eq_iff_iff, Iv.fit_iff, inI_iff]; rfl

/-- what is added: the result, or the nearest number -/
theorem add_cex {x y : Int} (hx : inI x = true) (hy : inI y = true) : Iv.cex 2 x y = if inI (x + y) = true then wrap64 (x + y) else if decide (x < 0) = true then Iv.MIN else Iv.MAX := by
  rw [inI_iff] at hx hy
  show Iv.clamp (x + y) = _
  by_cases h : inI (x + y) = true
  · rw [if_pos h, wrap64_id h]
    rw [inI_iff] at h
    exact Iv.clamp_id h.1 h.2
  · rw [if_neg h]
    rw [inI_iff] at h
    unfold Iv.clamp Iv.MIN Iv.MAX
    simp only [decide_eq_true_eq]
    repeat' split
    all_goals omega
theorem sub_cex {x y : Int} (hx : inI x = true) (hy : inI y = true) : Iv.cex 3 x y = if inI (x - y) = true then wrap64 (x - y) else if decide (x < 0) = true then Iv.MIN else Iv.MAX := by
  rw [inI_iff] at hx hy
  show Iv.clamp (x - y) = _
  by_cases h : inI (x - y) = true
  · rw [if_pos h, wrap64_id h]
    rw [inI_iff] at h
    exact Iv.clamp_id h.1 h.2
  · rw [if_neg h]
    rw [inI_iff] at h
    unfold Iv.clamp Iv.MIN Iv.MAX
    simp only [decide_eq_true_eq]
    repeat' split
    all_goals omega
theorem mul_cex (x y : Int) : Iv.cex 4 x y = if inI (x * y) = true then wrap64 (x * y) else if (decide (x < 0) != decide (y < 0)) = true then Iv.MIN else Iv.MAX := by
  show Iv.clamp (x * y) = _
  by_cases h : inI (x * y) = true
  · rw [if_pos h, wrap64_id h]
    rw [inI_iff] at h
    exact Iv.clamp_id h.1 h.2
  · rw [if_neg h]
    rw [inI_iff] at h
    have hs : (decide (x < 0) != decide (y < 0)) = true ↔ x * y < 0 ∨ (x * y = 0 ∧ (x < 0 ∧ 0 ≤ y ∨ 0 ≤ x ∧ y < 0)) := by
      by_cases h1 : x < 0 <;> by_cases h2 : y < 0
      · have := Int.mul_pos_of_neg_of_neg h1 h2
        simp [h1, h2]; omega
      · have := Int.mul_nonpos_of_nonpos_of_nonneg (Int.le_of_lt h1) (show 0 ≤ y by omega)
        simp [h1, h2]; omega
      · have := Int.mul_nonpos_of_nonneg_of_nonpos (show 0 ≤ x by omega) (Int.le_of_lt h2)
        simp [h1, h2]; omega
      · have := Int.mul_nonneg (show 0 ≤ x by omega) (show 0 ≤ y by omega)
        simp [h1, h2]; omega
    unfold Iv.clamp Iv.MIN Iv.MAX
    by_cases h3 : (decide (x < 0) != decide (y < 0)) = true
    · rw [if_pos h3]
      rw [hs] at h3
      repeat' split
      all_goals omega
    · rw [if_neg h3]
      rw [hs] at h3
      repeat' split
      all_goals omega

/-- an inner round's hull -/
theorem cors_step (op : Int) (a b : Iv.R) {k j : Nat} (hk : k < 2) (hj : j < 2) : Iv.addn (cors op a b (2 * k + j)) (Iv.cex op (endOf a k) (endOf b j)) = cors op a b (2 * k + j + 1) := by
  have h1 : (2 * k + j) / 2 = k := by omega
  have h2 : (2 * k + j) % 2 = j := by omega
  show _ = Iv.addn _ (Iv.cex op (endOf a ((2 * k + j) / 2)) (endOf b ((2 * k + j) % 2)))
  rw [h1, h2]
theorem corw_step (op : Int) (a b : Iv.R) {k j : Nat} (hk : k < 2) (hj : j < 2) : (corw op a b (2 * k + j) || !Iv.fit (Iv.ex op (endOf a k) (endOf b j))) = corw op a b (2 * k + j + 1) := by
  have h1 : (2 * k + j) / 2 = k := by omega
  have h2 : (2 * k + j) % 2 = j := by omega
  show _ = (_ || !Iv.fit (Iv.ex op (endOf a ((2 * k + j) / 2)) (endOf b ((2 * k + j) % 2))))
  rw [h1, h2]

/-- a corner more: fits or not -/
theorem hadd_any {w : World} {g : Nat} {r : Iv.R} {wd : Bool} (hb : HullB w g r wd) (n en : Int) (f : Bool) (m : Int) (hm : m = if f = true then n else en) :
    Calls Try.prog 100 #[.pointer (some ⟨g, 0, none⟩), .int .i64 n, .bool f, .int .i64 en] w fun e w' => e = .returned (.tuple #[]) ∧ Keeps w w' [g] ∧ HullB w' g (Iv.addn r m) (wd || !f) := by
  cases f
  · simp at hm; subst hm
    simpa using hadd_no hb n m
  · simp at hm; subst hm
    simpa using hadd_yes hb m en

/-- a round of corners -/
def CorInv (w wr : World) (op : Int) (a b : Iv.R) (g : Nat) (m : Nat) : Prop := HullB wr g (cors op a b m) (corw op a b m) ∧ Keeps w wr [] ∧ w.heap.size ≤ g

theorem index2 (x0 x1 : Int) (k : Nat) (hk : k < 2) (r : Iv.R) (hr : r = ⟨x0, x1⟩) : ∀ w, (Instr.index 134 (.agg #[.int .i64 x0, .int .i64 x1]) (.int .i64 k)).run Try.prog w = .ok (.int .i64 (endOf r k)) w := by
  intro w
  subst hr
  rcases (show k = 0 ∨ k = 1 by omega) with rfl | rfl
  · show (Instr.index 134 (.agg #[.int .i64 x0, .int .i64 x1]) (.int .i64 0)).run Try.prog w = .ok (.int .i64 x0) w
    kernel_rfl
  · show (Instr.index 134 (.agg #[.int .i64 x0, .int .i64 x1]) (.int .i64 1)).run Try.prog w = .ok (.int .i64 x1) w
    kernel_rfl

theorem endOf_in {r : Iv.R} (h1 : inI r.lo = true) (h2 : inI r.hi = true) (k : Nat) : inI (endOf r k) = true := by
  unfold endOf; split <;> assumption

theorem cor_add {w wr : World} {op : Int} {a b : Iv.R} {g k j : Nat} (h : CorInv w wr op a b g (2 * k + j)) (hk : k < 2) (hj : j < 2) (n en : Int) (f : Bool) (hf : f = Iv.fit (Iv.ex op (endOf a k) (endOf b j))) (hm : Iv.cex op (endOf a k) (endOf b j) = if f = true then n else en) :
    Calls Try.prog 100 #[.pointer (some ⟨g, 0, none⟩), .int .i64 n, .bool f, .int .i64 en] wr fun e w' => e = .returned (.tuple #[]) ∧ CorInv w w' op a b g (2 * k + j + 1) := by
  obtain ⟨h1, h2, h3⟩ := h
  refine (hadd_any h1 n en f _ hm).mono ?_
  rintro e w' ⟨rfl, k1, k2⟩
  refine ⟨rfl, ?_, keep_own h2 k1 (fun i hi => by simp at hi; omega), h3⟩
  rw [cors_step op a b hk hj, hf, corw_step op a b hk hj] at k2
  exact k2

set_option maxRecDepth 100000 in
set_option maxHeartbeats 4000000 in
theorem corners_add (a b : Iv.R) (ha1 : inI a.lo = true) (ha2 : inI a.hi = true) (hb1 : inI b.lo = true) (hb2 : inI b.hi = true) (w : World) :
    Calls Try.prog 95 #[.int .i64 2, .agg #[.int .i64 a.lo, .int .i64 a.hi], .agg #[.int .i64 b.lo, .int .i64 b.hi]] w fun e w' => e = .returned (.agg #[.int .i64 (Iv.clip3 2 a b).lo, .int .i64 (Iv.clip3 2 a b).hi, .bool (!Iv.fit4 2 a b)]) ∧ Keeps w w' [] := by
  have HA := kept (fun k => endOf_in ha1 ha2 k)
  have HB := kept (fun k => endOf_in hb1 hb2 k)
  have E1 := kept (cors4 2 a b)
  have E2 := kept (corw4 2 a b)
  clear ha1 ha2 hb1 hb2
  go_enter Try.func95, Try.ntmps95
  go_wp2_with fail
  refine (none_any _).mono ?_
  rintro e w1 ⟨rfl, k⟩
  obtain ⟨k, b0, b1, b2⟩ := box3 k
  have b0' := b0.keep ((Keeps.refl w1 []).alloc (.cells #[.int .i64 1, .int .i64 0, .bool false] 128)) (by simp)
  have x0 := b0'.cell 0
  have x1 := b0'.cell 1
  simp at x0 x1
  have K := kept k
  have B1 := kept b1
  have B2 := kept b2
  have I0 : CorInv w1 (w1.alloc (.cells #[.int .i64 1, .int .i64 0, .bool false] 128)) 2 a b w1.heap.size 0 := ⟨Blk.new w1 128 _, (Keeps.refl w1 []).alloc _, Nat.le_refl _⟩
  have HI0 := kept I0
  clear k b0 b0' b1 b2 I0
  go_wp2
  generalize w1.heap.size = g at *
  go_loopw [25] (fun i wr => ∃ k : Nat, k ≤ 2 ∧ i = .int .i64 k ∧ CorInv w1 wr 2 a b g (2 * k)) (fun i _ => 2 - (intOf i).toNat)
  case atStart => exact ⟨0, by omega, rfl, HI0.out⟩
  case round =>
    obtain ⟨k, hk, rfl, hI⟩ := hrel
    have HI := kept hI
    clear hI HI0
    by_cases hlt : k < 2
    · have hltb : decide ((k : Int) < 2) = true := by simp; omega
      have ix := index2 a.lo a.hi k hlt a rfl
      have b1 := B1.out.keep HI.out.2.1 (by simp)
      have y0 := b1.cell 0
      have y1 := b1.cell 1
      simp at y0 y1
      clear b1
      go_wp2
      clear ix y0 y1
      obtain ⟨wo, rfl⟩ : ∃ wo : World, wo = wr := ⟨_, rfl⟩
      go_loopw [33] (fun i wr => ∃ j : Nat, j ≤ 2 ∧ i = .int .i64 j ∧ CorInv w1 wr 2 a b g (2 * k + j)) (fun i _ => 2 - (intOf i).toNat)
      case atStart => exact ⟨0, by omega, rfl, HI.out⟩
      case round =>
        obtain ⟨j, hj, rfl, hI⟩ := hrel
        have HJ := kept hI
        clear hI
        by_cases hlj : j < 2
        · have iy := index2 b.lo b.hi j hlj b rfl
          rcases Bool.eq_false_or_eq_true (decide (endOf a k < 0)) with hs1 | hs1
          all_goals
            have HS := kept hs1
            go_wp2_with fail
            refine (add_any (endOf a k) (endOf b j) _ (HA.out k) (HB.out j)).mono ?_
            rintro e w2 ⟨rfl, rfl⟩
            go_wp2_with fail
            refine (nearest_any _ _).mono ?_
            rintro e w2 ⟨rfl, rfl⟩
            go_wp2_with fail
            refine (cor_add HJ.out hlt hlj _ _ _ ?hf ?hm).mono ?_
            case hf => exact (fit_inI _).symm
            case hm => rw [add_cex (HA.out k) (HB.out j), HS.out]; rfl
            clear iy
            rintro e w3 ⟨rfl, hI⟩
            have HN := kept hI
            clear hI
            go_wp2
            go_roundw
            case rel => exact ⟨j + 1, by omega, by go_num, HN.out⟩
            case measure => simp [intOf]; omega
        · obtain rfl : j = 2 := by omega
          go_wp2
          go_roundw
          case rel => exact ⟨k + 1, by omega, by go_num, HJ.out⟩
          case measure => simp [intOf]; omega
    · obtain rfl : k = 2 := by omega
      obtain ⟨h1, h2, h3⟩ := HI.out
      rw [E1.out, E2.out] at h1
      have z0 := Blk.cell h1 0
      have z1 := Blk.cell h1 1
      have z2 := Blk.cell h1 2
      simp at z0 z1 z2
      have b2 := B2.out.keep h2 (by simp)
      have u0 := b2.cell 0
      have u1 := b2.cell 1
      have u2 := b2.cell 2
      simp at u0 u1 u2
      have f0 := b2.frozen 0
      have f1 := b2.frozen 1
      have f2 := b2.frozen 2
      have K2 := kept h2
      clear h1 h2 b2
      go_wp2
      exact bodyPost_ret (v := .agg #[.int .i64 (Iv.clip3 2 a b).lo, .int .i64 (Iv.clip3 2 a b).hi, .bool (!Iv.fit4 2 a b)]) (by simp [results, Try.results95, go_sem, u0, u1, u2]) rfl ⟨rfl, (((K.out.next K2.out).setCell (.inr (by simp; omega)) _).setCell (.inr (by simp; omega)) _).setCell (.inr (by simp; omega)) _⟩

set_option maxRecDepth 100000 in
set_option maxHeartbeats 4000000 in
theorem corners_sub (a b : Iv.R) (ha1 : inI a.lo = true) (ha2 : inI a.hi = true) (hb1 : inI b.lo = true) (hb2 : inI b.hi = true) (w : World) :
    Calls Try.prog 95 #[.int .i64 3, .agg #[.int .i64 a.lo, .int .i64 a.hi], .agg #[.int .i64 b.lo, .int .i64 b.hi]] w fun e w' => e = .returned (.agg #[.int .i64 (Iv.clip3 3 a b).lo, .int .i64 (Iv.clip3 3 a b).hi, .bool (!Iv.fit4 3 a b)]) ∧ Keeps w w' [] := by
  have HA := kept (fun k => endOf_in ha1 ha2 k)
  have HB := kept (fun k => endOf_in hb1 hb2 k)
  have E1 := kept (cors4 3 a b)
  have E2 := kept (corw4 3 a b)
  clear ha1 ha2 hb1 hb2
  go_enter Try.func95, Try.ntmps95
  go_wp2_with fail
  refine (none_any _).mono ?_
  rintro e w1 ⟨rfl, k⟩
  obtain ⟨k, b0, b1, b2⟩ := box3 k
  have b0' := b0.keep ((Keeps.refl w1 []).alloc (.cells #[.int .i64 1, .int .i64 0, .bool false] 128)) (by simp)
  have x0 := b0'.cell 0
  have x1 := b0'.cell 1
  simp at x0 x1
  have K := kept k
  have B1 := kept b1
  have B2 := kept b2
  have I0 : CorInv w1 (w1.alloc (.cells #[.int .i64 1, .int .i64 0, .bool false] 128)) 3 a b w1.heap.size 0 := ⟨Blk.new w1 128 _, (Keeps.refl w1 []).alloc _, Nat.le_refl _⟩
  have HI0 := kept I0
  clear k b0 b0' b1 b2 I0
  go_wp2
  generalize w1.heap.size = g at *
  go_loopw [25] (fun i wr => ∃ k : Nat, k ≤ 2 ∧ i = .int .i64 k ∧ CorInv w1 wr 3 a b g (2 * k)) (fun i _ => 2 - (intOf i).toNat)
  case atStart => exact ⟨0, by omega, rfl, HI0.out⟩
  case round =>
    obtain ⟨k, hk, rfl, hI⟩ := hrel
    have HI := kept hI
    clear hI HI0
    by_cases hlt : k < 2
    · have hltb : decide ((k : Int) < 2) = true := by simp; omega
      have ix := index2 a.lo a.hi k hlt a rfl
      have b1 := B1.out.keep HI.out.2.1 (by simp)
      have y0 := b1.cell 0
      have y1 := b1.cell 1
      simp at y0 y1
      clear b1
      go_wp2
      clear ix y0 y1
      obtain ⟨wo, rfl⟩ : ∃ wo : World, wo = wr := ⟨_, rfl⟩
      go_loopw [33] (fun i wr => ∃ j : Nat, j ≤ 2 ∧ i = .int .i64 j ∧ CorInv w1 wr 3 a b g (2 * k + j)) (fun i _ => 2 - (intOf i).toNat)
      case atStart => exact ⟨0, by omega, rfl, HI.out⟩
      case round =>
        obtain ⟨j, hj, rfl, hI⟩ := hrel
        have HJ := kept hI
        clear hI
        by_cases hlj : j < 2
        · have iy := index2 b.lo b.hi j hlj b rfl
          rcases Bool.eq_false_or_eq_true (decide (endOf a k < 0)) with hs1 | hs1
          all_goals
            have HS := kept hs1
            go_wp2_with fail
            refine (sub_any (endOf a k) (endOf b j) _ (HA.out k) (HB.out j)).mono ?_
            rintro e w2 ⟨rfl, rfl⟩
            go_wp2_with fail
            refine (nearest_any _ _).mono ?_
            rintro e w2 ⟨rfl, rfl⟩
            go_wp2_with fail
            refine (cor_add HJ.out hlt hlj _ _ _ ?hf ?hm).mono ?_
            case hf => exact (fit_inI _).symm
            case hm => rw [sub_cex (HA.out k) (HB.out j), HS.out]; rfl
            clear iy
            rintro e w3 ⟨rfl, hI⟩
            have HN := kept hI
            clear hI
            go_wp2
            go_roundw
            case rel => exact ⟨j + 1, by omega, by go_num, HN.out⟩
            case measure => simp [intOf]; omega
        · obtain rfl : j = 2 := by omega
          go_wp2
          go_roundw
          case rel => exact ⟨k + 1, by omega, by go_num, HJ.out⟩
          case measure => simp [intOf]; omega
    · obtain rfl : k = 2 := by omega
      obtain ⟨h1, h2, h3⟩ := HI.out
      rw [E1.out, E2.out] at h1
      have z0 := Blk.cell h1 0
      have z1 := Blk.cell h1 1
      have z2 := Blk.cell h1 2
      simp at z0 z1 z2
      have b2 := B2.out.keep h2 (by simp)
      have u0 := b2.cell 0
      have u1 := b2.cell 1
      have u2 := b2.cell 2
      simp at u0 u1 u2
      have f0 := b2.frozen 0
      have f1 := b2.frozen 1
      have f2 := b2.frozen 2
      have K2 := kept h2
      clear h1 h2 b2
      go_wp2
      exact bodyPost_ret (v := .agg #[.int .i64 (Iv.clip3 3 a b).lo, .int .i64 (Iv.clip3 3 a b).hi, .bool (!Iv.fit4 3 a b)]) (by simp [results, Try.results95, go_sem, u0, u1, u2]) rfl ⟨rfl, (((K.out.next K2.out).setCell (.inr (by simp; omega)) _).setCell (.inr (by simp; omega)) _).setCell (.inr (by simp; omega)) _⟩

set_option maxRecDepth 100000 in
set_option maxHeartbeats 4000000 in
theorem corners_mul (a b : Iv.R) (ha1 : inI a.lo = true) (ha2 : inI a.hi = true) (hb1 : inI b.lo = true) (hb2 : inI b.hi = true) (w : World) :
    Calls Try.prog 95 #[.int .i64 4, .agg #[.int .i64 a.lo, .int .i64 a.hi], .agg #[.int .i64 b.lo, .int .i64 b.hi]] w fun e w' => e = .returned (.agg #[.int .i64 (Iv.clip3 4 a b).lo, .int .i64 (Iv.clip3 4 a b).hi, .bool (!Iv.fit4 4 a b)]) ∧ Keeps w w' [] := by
  have HA := kept (fun k => endOf_in ha1 ha2 k)
  have HB := kept (fun k => endOf_in hb1 hb2 k)
  have E1 := kept (cors4 4 a b)
  have E2 := kept (corw4 4 a b)
  clear ha1 ha2 hb1 hb2
  go_enter Try.func95, Try.ntmps95
  go_wp2_with fail
  refine (none_any _).mono ?_
  rintro e w1 ⟨rfl, k⟩
  obtain ⟨k, b0, b1, b2⟩ := box3 k
  have b0' := b0.keep ((Keeps.refl w1 []).alloc (.cells #[.int .i64 1, .int .i64 0, .bool false] 128)) (by simp)
  have x0 := b0'.cell 0
  have x1 := b0'.cell 1
  simp at x0 x1
  have K := kept k
  have B1 := kept b1
  have B2 := kept b2
  have I0 : CorInv w1 (w1.alloc (.cells #[.int .i64 1, .int .i64 0, .bool false] 128)) 4 a b w1.heap.size 0 := ⟨Blk.new w1 128 _, (Keeps.refl w1 []).alloc _, Nat.le_refl _⟩
  have HI0 := kept I0
  clear k b0 b0' b1 b2 I0
  go_wp2
  generalize w1.heap.size = g at *
  go_loopw [25] (fun i wr => ∃ k : Nat, k ≤ 2 ∧ i = .int .i64 k ∧ CorInv w1 wr 4 a b g (2 * k)) (fun i _ => 2 - (intOf i).toNat)
  case atStart => exact ⟨0, by omega, rfl, HI0.out⟩
  case round =>
    obtain ⟨k, hk, rfl, hI⟩ := hrel
    have HI := kept hI
    clear hI HI0
    by_cases hlt : k < 2
    · have hltb : decide ((k : Int) < 2) = true := by simp; omega
      have ix := index2 a.lo a.hi k hlt a rfl
      have b1 := B1.out.keep HI.out.2.1 (by simp)
      have y0 := b1.cell 0
      have y1 := b1.cell 1
      simp at y0 y1
      clear b1
      go_wp2
      clear ix y0 y1
      obtain ⟨wo, rfl⟩ : ∃ wo : World, wo = wr := ⟨_, rfl⟩
      go_loopw [33] (fun i wr => ∃ j : Nat, j ≤ 2 ∧ i = .int .i64 j ∧ CorInv w1 wr 4 a b g (2 * k + j)) (fun i _ => 2 - (intOf i).toNat)
      case atStart => exact ⟨0, by omega, rfl, HI.out⟩
      case round =>
        obtain ⟨j, hj, rfl, hI⟩ := hrel
        have HJ := kept hI
        clear hI
        by_cases hlj : j < 2
        · have iy := index2 b.lo b.hi j hlj b rfl
          rcases Bool.eq_false_or_eq_true (decide (endOf a k < 0)) with hs1 | hs1 <;> rcases Bool.eq_false_or_eq_true (decide (endOf b j < 0)) with hs2 | hs2
          all_goals
            have HS := kept hs1
            have HS2 := kept hs2
            go_wp2_with fail
            refine (mul_any (endOf a k) (endOf b j) _ (HA.out k) (HB.out j)).mono ?_
            rintro e w2 ⟨rfl, rfl⟩
            go_wp2_with fail
            refine (nearest_any _ _).mono ?_
            rintro e w2 ⟨rfl, rfl⟩
            go_wp2_with fail
            refine (cor_add HJ.out hlt hlj _ _ _ ?hf ?hm).mono ?_
            case hf => exact (fit_inI _).symm
            case hm => rw [mul_cex (endOf a k) (endOf b j), HS.out, HS2.out]; rfl
            clear iy
            rintro e w3 ⟨rfl, hI⟩
            have HN := kept hI
            clear hI
            go_wp2
            go_roundw
            case rel => exact ⟨j + 1, by omega, by go_num, HN.out⟩
            case measure => simp [intOf]; omega
        · obtain rfl : j = 2 := by omega
          go_wp2
          go_roundw
          case rel => exact ⟨k + 1, by omega, by go_num, HJ.out⟩
          case measure => simp [intOf]; omega
    · obtain rfl : k = 2 := by omega
      obtain ⟨h1, h2, h3⟩ := HI.out
      rw [E1.out, E2.out] at h1
      have z0 := Blk.cell h1 0
      have z1 := Blk.cell h1 1
      have z2 := Blk.cell h1 2
      simp at z0 z1 z2
      have b2 := B2.out.keep h2 (by simp)
      have u0 := b2.cell 0
      have u1 := b2.cell 1
      have u2 := b2.cell 2
      simp at u0 u1 u2
      have f0 := b2.frozen 0
      have f1 := b2.frozen 1
      have f2 := b2.frozen 2
      have K2 := kept h2
      clear h1 h2 b2
      go_wp2
      exact bodyPost_ret (v := .agg #[.int .i64 (Iv.clip3 4 a b).lo, .int .i64 (Iv.clip3 4 a b).hi, .bool (!Iv.fit4 4 a b)]) (by simp [results, Try.results95, go_sem, u0, u1, u2]) rfl ⟨rfl, (((K.out.next K2.out).setCell (.inr (by simp; omega)) _).setCell (.inr (by simp; omega)) _).setCell (.inr (by simp; omega)) _⟩
end Go.Proofs.Ytppidnjhdefbiaa
