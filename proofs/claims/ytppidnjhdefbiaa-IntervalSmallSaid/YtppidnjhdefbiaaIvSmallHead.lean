/- Package interval: the contracts of the law IntervalSmall: plain laws, and its own helpers small, with. -/
import Derived.Test.YtppidnjhdefbiaaIvSoundHead
namespace Go.Proofs.Ytppidnjhdefbiaa
open Go.RowKit
set_option linter.unusedVariables false

/-- the pairs that have been gone through, ahead of (x, y) -/
def Vis (a b : Iv.R) (x y x' y' : Int) : Prop := a.lo ≤ x' ∧ b.lo ≤ y' ∧ y' ≤ b.hi ∧ (x' < x ∨ (x' = x ∧ y' < y))
def SW (a b : Iv.R) (x y n : Int) : Prop := ∃ x' y', Vis a b x y x' y' ∧ y' ≠ 0 ∧ n = x'.tdiv y'
def ST (op : Int) (a b : Iv.R) (x y n : Int) : Prop := ∃ x' y', Vis a b x y x' y' ∧ n = Iv.val (Iv.so op x' y')
def SC (num : Int) (a b : Iv.R) (x n : Int) : Prop := a.lo ≤ n ∧ n < x ∧ ∃ y, b.lo ≤ y ∧ y ≤ b.hi ∧ Iv.is num n y = true
def Lf (num : Int) (b : Iv.R) (x y : Int) (l : Bool) : Prop := l = true ↔ ∃ y', b.lo ≤ y' ∧ y' < y ∧ Iv.is num x y' = true

section
variable {a b : Iv.R} {x y n op num : Int} {r : Iv.R} {l : Bool}
theorem vis_step (hx : a.lo ≤ x) (h1 : b.lo ≤ y) (h2 : y ≤ b.hi) (x' y' : Int) : Vis a b x (y + 1) x' y' ↔ Vis a b x y x' y' ∨ (x' = x ∧ y' = y) := by unfold Vis; omega
theorem vis_next (x' y' : Int) : Vis a b x (b.hi + 1) x' y' ↔ Vis a b (x + 1) b.lo x' y' := by unfold Vis; omega
theorem sw_add (hx : a.lo ≤ x) (h1 : b.lo ≤ y) (h2 : y ≤ b.hi) (hy : y ≠ 0) (h : Iv.Hull (SW a b x y) r) : Iv.Hull (SW a b x (y + 1)) (Iv.addn r (x.tdiv y)) := by
  refine (h.add (x.tdiv y)).congr fun n => ?_
  constructor
  · rintro (⟨x', y', hv, h3, h4⟩ | rfl)
    · exact ⟨x', y', (vis_step hx h1 h2 x' y').2 (.inl hv), h3, h4⟩
    · exact ⟨x, y, (vis_step hx h1 h2 x y).2 (.inr ⟨rfl, rfl⟩), hy, rfl⟩
  · rintro ⟨x', y', hv, h3, h4⟩
    rcases (vis_step hx h1 h2 x' y').1 hv with hv | ⟨rfl, rfl⟩
    · exact .inl ⟨x', y', hv, h3, h4⟩
    · exact .inr h4
theorem sw_zero (hx : a.lo ≤ x) (h1 : b.lo ≤ y) (h2 : y ≤ b.hi) (hy : y = 0) (h : Iv.Hull (SW a b x y) r) : Iv.Hull (SW a b x (y + 1)) r := by
  refine h.congr fun n => ?_
  constructor
  · rintro ⟨x', y', hv, h3, h4⟩
    exact ⟨x', y', (vis_step hx h1 h2 x' y').2 (.inl hv), h3, h4⟩
  · rintro ⟨x', y', hv, h3, h4⟩
    rcases (vis_step hx h1 h2 x' y').1 hv with hv | ⟨rfl, rfl⟩
    · exact ⟨x', y', hv, h3, h4⟩
    · exact absurd hy h3
theorem sw_next (h : Iv.Hull (SW a b x (b.hi + 1)) r) : Iv.Hull (SW a b (x + 1) b.lo) r :=
  h.congr fun n => ⟨fun ⟨x', y', hv, h3, h4⟩ => ⟨x', y', (vis_next x' y').1 hv, h3, h4⟩, fun ⟨x', y', hv, h3, h4⟩ => ⟨x', y', (vis_next x' y').2 hv, h3, h4⟩⟩
theorem sw_start : Iv.Hull (SW a b a.lo b.lo) Iv.none := Iv.hull_no fun n ⟨x', y', hv, _⟩ => by unfold Vis at hv; omega
theorem sw_end (h : Iv.Hull (SW a b (a.hi + 1) b.lo) r) : Iv.Hull (Iv.Quo a b) r :=
  h.congr fun n => ⟨fun ⟨x', y', hv, h3, h4⟩ => by unfold Vis at hv; exact ⟨x', y', by omega, by omega, by omega, by omega, h3, h4⟩, fun ⟨x', y', k1, k2, k3, k4, k5, k6⟩ => ⟨x', y', by unfold Vis; omega, k5, k6⟩⟩
theorem st_add (hx : a.lo ≤ x) (h1 : b.lo ≤ y) (h2 : y ≤ b.hi) (h : Iv.Hull (ST op a b x y) r) : Iv.Hull (ST op a b x (y + 1)) (Iv.addn r (Iv.val (Iv.so op x y))) := by
  refine (h.add _).congr fun n => ?_
  constructor
  · rintro (⟨x', y', hv, h4⟩ | rfl)
    · exact ⟨x', y', (vis_step hx h1 h2 x' y').2 (.inl hv), h4⟩
    · exact ⟨x, y, (vis_step hx h1 h2 x y).2 (.inr ⟨rfl, rfl⟩), rfl⟩
  · rintro ⟨x', y', hv, h4⟩
    rcases (vis_step hx h1 h2 x' y').1 hv with hv | ⟨rfl, rfl⟩
    · exact .inl ⟨x', y', hv, h4⟩
    · exact .inr h4
theorem st_next (h : Iv.Hull (ST op a b x (b.hi + 1)) r) : Iv.Hull (ST op a b (x + 1) b.lo) r :=
  h.congr fun n => ⟨fun ⟨x', y', hv, h4⟩ => ⟨x', y', (vis_next x' y').1 hv, h4⟩, fun ⟨x', y', hv, h4⟩ => ⟨x', y', (vis_next x' y').2 hv, h4⟩⟩
theorem st_start : Iv.Hull (ST op a b a.lo b.lo) Iv.none := Iv.hull_no fun n ⟨x', y', hv, _⟩ => by unfold Vis at hv; omega
theorem st_end (h : Iv.Hull (ST op a b (a.hi + 1) b.lo) r) : Iv.Hull (Iv.Tru op a b) r :=
  h.congr fun n => ⟨fun ⟨x', y', hv, h4⟩ => by unfold Vis at hv; exact ⟨x', y', by omega, by omega, by omega, by omega, h4⟩, fun ⟨x', y', k1, k2, k3, k4, k6⟩ => ⟨x', y', by unfold Vis; omega, k6⟩⟩
theorem lf_start : Lf num b x b.lo false := ⟨fun h => (by cases h), fun ⟨y', h1, h2, _⟩ => by omega⟩
theorem lf_step (h1 : b.lo ≤ y) (h : Lf num b x y l) : Lf num b x (y + 1) (l || Iv.is num x y) := by
  unfold Lf at *
  rw [Bool.or_eq_true, h]
  constructor
  · rintro (⟨y', k1, k2, k3⟩ | k)
    · exact ⟨y', k1, by omega, k3⟩
    · exact ⟨y, h1, by omega, k⟩
  · rintro ⟨y', k1, k2, k3⟩
    by_cases e : y' = y
    · subst e; exact .inr k3
    · exact .inl ⟨y', k1, by omega, k3⟩
theorem sc_start : Iv.Hull (SC num a b a.lo) Iv.none := Iv.hull_no fun n ⟨h1, h2, _⟩ => by omega
theorem sc_yes (hx : a.lo ≤ x) (hl : Lf num b x (b.hi + 1) true) (h : Iv.Hull (SC num a b x) r) : Iv.Hull (SC num a b (x + 1)) (Iv.addn r x) := by
  obtain ⟨y', k1, k2, k3⟩ := hl.1 rfl
  refine (h.add x).congr fun n => ?_
  constructor
  · rintro (⟨h1, h2, h3⟩ | rfl)
    · exact ⟨h1, by omega, h3⟩
    · exact ⟨hx, by omega, y', k1, by omega, k3⟩
  · rintro ⟨h1, h2, h3⟩
    by_cases e : n = x
    · exact .inr e
    · exact .inl ⟨h1, by omega, h3⟩
theorem sc_no (hl : Lf num b x (b.hi + 1) false) (h : Iv.Hull (SC num a b x) r) : Iv.Hull (SC num a b (x + 1)) r := by
  refine h.congr fun n => ?_
  constructor
  · rintro ⟨h1, h2, h3⟩
    exact ⟨h1, by omega, h3⟩
  · rintro ⟨h1, h2, y, k1, k2, k3⟩
    by_cases e : n = x
    · subst e
      have := hl.2 ⟨y, k1, by omega, k3⟩
      cases this
    · exact ⟨h1, by omega, y, k1, k2, k3⟩
theorem sc_end (h : Iv.Hull (SC num a b (a.hi + 1)) r) : Iv.Hull (Iv.Left num a b) r :=
  h.congr fun n => ⟨fun ⟨h1, h2, h3⟩ => ⟨h1, by omega, h3⟩, fun ⟨h1, h2, h3⟩ => ⟨h1, by omega, h3⟩⟩
end

/-- a small range, that isn't out of bounds -/
def smallAt (base : Int) (l : Int) : Int := (if 9223372036854775768 < base then 9223372036854775768 else if base < -9223372036854775768 then -9223372036854775768 else base) - 20 + l % 21
def smallR (base l n : Int) : Iv.R := ⟨smallAt base l, smallAt base l + n % 13⟩
theorem small_bd (base l n : Int) : -9223372036854775808 < (smallR base l n).lo ∧ (smallR base l n).lo ≤ (smallR base l n).hi ∧ (smallR base l n).hi < 9223372036854775807 := by
  unfold smallR smallAt
  simp only
  have h1 : 0 ≤ l % 21 ∧ l % 21 < 21 := by omega
  have h2 : 0 ≤ n % 13 ∧ n % 13 < 13 := by omega
  refine ⟨?_, ?_, ?_⟩ <;> (repeat' split) <;> omega

theorem ret_agg {a b c d : Int} (h1 : a = c) (h2 : b = d) : Ending.returned (.agg #[.int .i64 a, .int .i64 b]) = .returned (.agg #[.int .i64 c, .int .i64 d]) := by rw [h1, h2]

set_option maxHeartbeats 4000000 in
theorem small_any (base l n : Int) (hb : inI base = true) (hl0 : 0 ≤ l) (hl : l ≤ 255) (hn0 : 0 ≤ n) (hn : n ≤ 255) (w : World) :
    Calls Try.prog 73 #[.int .i64 base, .int .u8 l, .int .u8 n] w fun e w' => e = .returned (.agg #[.int .i64 (smallR base l n).lo, .int .i64 (smallR base l n).hi]) ∧ Keeps w w' [] := by
  rw [inI_iff] at hb
  obtain ⟨hb1, hb2⟩ := hb
  have h1 : 0 ≤ l % 21 ∧ l % 21 < 21 := by omega
  have h2 : 0 ≤ n % 13 ∧ n % 13 < 13 := by omega
  obtain ⟨h1a, h1b⟩ := h1
  obtain ⟨h2a, h2b⟩ := h2
  obtain ⟨r, hr⟩ : ∃ r, smallR base l n = r := ⟨_, rfl⟩
  rw [hr]
  by_cases c1 : 9223372036854775768 < base
  · have e : r = ⟨9223372036854775768 - 20 + l % 21, 9223372036854775768 - 20 + l % 21 + n % 13⟩ := by rw [← hr]; unfold smallR smallAt; rw [if_pos c1]
    have E := kept e
    clear hr e
    go_enter Try.func73, Try.ntmps73
    go_wp2
    exact bodyPost_ret (v := .agg #[.int .i64 (9223372036854775748 + l % 21), .int .i64 (9223372036854775748 + l % 21 + n % 13)]) (by simp [results, Try.results73, go_sem]) rfl ⟨by rw [E.out]; exact ret_agg (by simp only; omega) (by simp only; omega), (Keeps.refl w []).alloc _⟩
  by_cases c2 : base < -9223372036854775768
  · have e : r = ⟨-9223372036854775768 - 20 + l % 21, -9223372036854775768 - 20 + l % 21 + n % 13⟩ := by rw [← hr]; unfold smallR smallAt; rw [if_neg c1, if_pos c2]
    have E := kept e
    clear hr e
    go_enter Try.func73, Try.ntmps73
    go_wp2
    exact bodyPost_ret (v := .agg #[.int .i64 (-9223372036854775788 + l % 21), .int .i64 (-9223372036854775788 + l % 21 + n % 13)]) (by simp [results, Try.results73, go_sem]) rfl ⟨by rw [E.out]; exact ret_agg (by simp only; omega) (by simp only; omega), (Keeps.refl w []).alloc _⟩
  · have e : r = ⟨base - 20 + l % 21, base - 20 + l % 21 + n % 13⟩ := by rw [← hr]; unfold smallR smallAt; rw [if_neg c1, if_neg c2]
    have E := kept e
    have c1' : base ≤ 9223372036854775768 := by omega
    have c2' : -9223372036854775768 ≤ base := by omega
    clear hr e
    go_enter Try.func73, Try.ntmps73
    go_wp2
    exact bodyPost_ret (v := .agg #[.int .i64 (base - 20 + l % 21), .int .i64 (base - 20 + l % 21 + n % 13)]) (by simp [results, Try.results73, go_sem]) rfl ⟨by rw [E.out], (Keeps.refl w []).alloc _⟩

set_option maxHeartbeats 4000000 in
theorem with_any (r : Iv.R) (n : Int) (w : World) : Calls Try.prog 76 #[.agg #[.int .i64 r.lo, .int .i64 r.hi], .int .i64 n] w fun e w' => e = .returned (.agg #[.int .i64 (Iv.addn r n).lo, .int .i64 (Iv.addn r n).hi]) ∧ Keeps w w' [] := by
  obtain ⟨p, q⟩ := r
  obtain ⟨s, hs⟩ : ∃ s, Iv.addn ⟨p, q⟩ n = s := ⟨_, rfl⟩
  rw [hs]
  by_cases c : q < p
  · have e : s = ⟨n, n⟩ := by rw [← hs]; unfold Iv.addn; rw [if_pos c]
    have E := kept e
    clear hs e
    go_enter Try.func76, Try.ntmps76
    go_wp2
    refine bodyPost_ret (v := .agg #[.int .i64 n, .int .i64 n]) ?_ rfl ?_
    · simp [results, Try.results76, go_sem]
    · exact ⟨by rw [E.out], ((Keeps.refl w []).alloc _).alloc _⟩
  have e0 : s = ⟨min p n, max q n⟩ := by rw [← hs]; unfold Iv.addn; rw [if_neg c]
  by_cases c1 : p ≤ n <;> by_cases c2 : n ≤ q
  · have e : s = ⟨p, q⟩ := by rw [e0, show min p n = p by omega, show max q n = q by omega]
    have E := kept e
    clear hs e e0
    go_enter Try.func76, Try.ntmps76
    go_wp2
    exact bodyPost_ret (v := .agg #[.int .i64 p, .int .i64 q]) (by simp [results, Try.results76, go_sem]) rfl ⟨by rw [E.out], ((Keeps.refl w []).alloc _).alloc _⟩
  · have e : s = ⟨p, n⟩ := by rw [e0, show min p n = p by omega, show max q n = n by omega]
    have E := kept e
    clear hs e e0
    go_enter Try.func76, Try.ntmps76
    go_wp2
    exact bodyPost_ret (v := .agg #[.int .i64 p, .int .i64 n]) (by simp [results, Try.results76, go_sem]) rfl ⟨by rw [E.out], ((Keeps.refl w []).alloc _).alloc _⟩
  · have e : s = ⟨n, q⟩ := by rw [e0, show min p n = n by omega, show max q n = q by omega]
    have E := kept e
    clear hs e e0
    go_enter Try.func76, Try.ntmps76
    go_wp2
    exact bodyPost_ret (v := .agg #[.int .i64 n, .int .i64 q]) (by simp [results, Try.results76, go_sem]) rfl ⟨by rw [E.out], ((Keeps.refl w []).alloc _).alloc _⟩
  · omega
end Go.Proofs.Ytppidnjhdefbiaa
