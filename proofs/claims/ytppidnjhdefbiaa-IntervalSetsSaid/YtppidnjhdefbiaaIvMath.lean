/- Plain laws on ranges of numbers (chapter 21): hulls of sets of numbers, by their corners. No program in sight. -/
set_option linter.unusedVariables false
namespace Iv

/-- numbers from lo to hi -/
structure R where
  lo : Int
  hi : Int

theorem R.eq {a b : R} (h1 : a.lo = b.lo) (h2 : a.hi = b.hi) : a = b := by
  cases a; cases b; simp at h1 h2; rw [h1, h2]

def MIN : Int := -9223372036854775808
def MAX : Int := 9223372036854775807
def none : R := ⟨1, 0⟩
def all : R := ⟨MIN, MAX⟩
def of (n : Int) : R := ⟨n, n⟩
def made (lo hi : Int) : R := if hi < lo then none else ⟨lo, hi⟩
def join (a b : R) : R := if a.hi < a.lo then made b.lo b.hi else if b.hi < b.lo then a else ⟨min a.lo b.lo, max a.hi b.hi⟩
def meet (a b : R) : R := made (max a.lo b.lo) (min a.hi b.hi)
def has (r : R) (n : Int) : Bool := decide (r.lo ≤ n) && decide (n ≤ r.hi)
def within (a b : R) : Bool := decide (a.hi < a.lo) || (has b a.lo && has b a.hi)

theorem has_iff {r : R} {n : Int} : has r n = true ↔ r.lo ≤ n ∧ n ≤ r.hi := by simp [has]

/-- a range with a number more -/
def addn (r : R) (n : Int) : R := if r.hi < r.lo then ⟨n, n⟩ else ⟨min r.lo n, max r.hi n⟩
theorem join_of (r : R) (n : Int) : join r (of n) = addn r n := by
  unfold join addn of made
  simp

/-- the least range that has all of a set; none, where there are none -/
structure Hull (S : Int → Prop) (r : R) : Prop where
  only : ∀ n, S n → r.lo ≤ n ∧ n ≤ r.hi
  ends : (r = none ∧ ∀ n, ¬ S n) ∨ (r.lo ≤ r.hi ∧ S r.lo ∧ S r.hi)

section
variable {S T : Int → Prop} {r s : R}
theorem Hull.unique (h : Hull S r) (k : Hull S s) : r = s := by
  rcases h.ends with ⟨h1, h2⟩ | ⟨h1, h2, h3⟩ <;> rcases k.ends with ⟨k1, k2⟩ | ⟨k1, k2, k3⟩
  · rw [h1, k1]
  · exact absurd k2 (h2 _)
  · exact absurd h2 (k2 _)
  · have a1 := k.only _ h2
    have a2 := k.only _ h3
    have b1 := h.only _ k2
    have b2 := h.only _ k3
    exact R.eq (by omega) (by omega)
theorem Hull.congr (h : Hull S r) (e : ∀ n, S n ↔ T n) : Hull T r :=
  ⟨fun n hn => h.only n ((e n).2 hn), h.ends.elim (fun ⟨a, b⟩ => .inl ⟨a, fun n hn => b n ((e n).2 hn)⟩) (fun ⟨a, b, c⟩ => .inr ⟨a, (e _).1 b, (e _).1 c⟩)⟩
theorem Hull.nil : Hull (fun _ => False) none := ⟨fun _ h => h.elim, .inl ⟨rfl, fun _ h => h⟩⟩
theorem Hull.add (h : Hull S r) (n : Int) : Hull (fun m => S m ∨ m = n) (addn r n) := by
  unfold addn
  rcases h.ends with ⟨h1, h2⟩ | ⟨h1, h2, h3⟩
  · subst h1
    rw [if_pos (by decide)]
    exact ⟨fun m hm => by
      rcases hm with hm | hm
      · exact absurd hm (h2 _)
      · subst hm; exact ⟨Int.le_refl _, Int.le_refl _⟩, .inr ⟨Int.le_refl _, .inr rfl, .inr rfl⟩⟩
  · rw [if_neg (by omega)]
    refine ⟨fun m hm => ?_, .inr ⟨?_, ?_, ?_⟩⟩
    · rcases hm with hm | hm
      · have := h.only _ hm; show min _ _ ≤ _ ∧ _ ≤ max _ _; omega
      · subst hm; show min _ _ ≤ _ ∧ _ ≤ max _ _; omega
    · show min _ _ ≤ max _ _; omega
    · show S (min _ _) ∨ min _ _ = _
      rcases Int.le_total r.lo n with h4 | h4
      · rw [Int.min_eq_left h4]; exact .inl h2
      · rw [Int.min_eq_right h4]; exact .inr rfl
    · show S (max _ _) ∨ max _ _ = _
      rcases Int.le_total r.hi n with h4 | h4
      · rw [Int.max_eq_right h4]; exact .inr rfl
      · rw [Int.max_eq_left h4]; exact .inl h3
theorem Hull.widen (h : Hull T r) (sub : ∀ n, T n → S n) (btw : ∀ n, S n → (∃ t, T t ∧ t ≤ n) ∧ (∃ t, T t ∧ n ≤ t)) : Hull S r := by
  refine ⟨fun n hn => ?_, ?_⟩
  · obtain ⟨⟨t, h1, h2⟩, ⟨u, h3, h4⟩⟩ := btw n hn
    have := h.only _ h1
    have := h.only _ h3
    omega
  · rcases h.ends with ⟨h1, h2⟩ | ⟨h1, h2, h3⟩
    · refine .inl ⟨h1, fun n hn => ?_⟩
      obtain ⟨⟨t, h3, _⟩, _⟩ := btw n hn
      exact h2 _ h3
    · exact .inr ⟨h1, sub _ h2, sub _ h3⟩
theorem Hull.sub (h : Hull S r) (k : Hull T s) (e : ∀ n, S n → T n) : within r s = true := by
  unfold within
  rcases h.ends with ⟨h1, _⟩ | ⟨_, h2, h3⟩
  · subst h1; rfl
  · have := k.only _ (e _ h2)
    have := k.only _ (e _ h3)
    simp [has]
    omega
end

/-- what a function comes to of the numbers of two ranges -/
def Img (f : Int → Int → Int) (a b : R) (n : Int) : Prop := ∃ x y, a.lo ≤ x ∧ x ≤ a.hi ∧ b.lo ≤ y ∧ y ≤ b.hi ∧ n = f x y
def Cor (f : Int → Int → Int) (a b : R) (n : Int) : Prop := n = f a.lo b.lo ∨ n = f a.lo b.hi ∨ n = f a.hi b.lo ∨ n = f a.hi b.hi
/-- between two corners -/
def Btw (f : Int → Int → Int) (a b : R) : Prop := ∀ x y, a.lo ≤ x → x ≤ a.hi → b.lo ≤ y → y ≤ b.hi → (∃ t, Cor f a b t ∧ t ≤ f x y) ∧ (∃ t, Cor f a b t ∧ f x y ≤ t)

/-- on the way, or back -/
def Way (p q v : Int) : Prop := (p ≤ v ∧ v ≤ q) ∨ (q ≤ v ∧ v ≤ p)

theorem btw_of_ways (f : Int → Int → Int) (a b : R) (h1 : ∀ x y, a.lo ≤ x → x ≤ a.hi → b.lo ≤ y → y ≤ b.hi → Way (f a.lo y) (f a.hi y) (f x y))
    (h2 : ∀ x y, a.lo ≤ x → x ≤ a.hi → b.lo ≤ y → y ≤ b.hi → Way (f x b.lo) (f x b.hi) (f x y)) : Btw f a b := by
  intro x y hx1 hx2 hy1 hy2
  have w := h1 x y hx1 hx2 hy1 hy2
  have w1 := h2 a.lo y (Int.le_refl _) (by omega) hy1 hy2
  have w2 := h2 a.hi y (by omega) (Int.le_refl _) hy1 hy2
  have c1 : Cor f a b (f a.lo b.lo) := .inl rfl
  have c2 : Cor f a b (f a.lo b.hi) := .inr (.inl rfl)
  have c3 : Cor f a b (f a.hi b.lo) := .inr (.inr (.inl rfl))
  have c4 : Cor f a b (f a.hi b.hi) := .inr (.inr (.inr rfl))
  have lo1 : ∃ t, Cor f a b t ∧ t ≤ f a.lo y := w1.elim (fun h => ⟨_, c1, h.1⟩) (fun h => ⟨_, c2, h.1⟩)
  have hi1 : ∃ t, Cor f a b t ∧ f a.lo y ≤ t := w1.elim (fun h => ⟨_, c2, h.2⟩) (fun h => ⟨_, c1, h.2⟩)
  have lo2 : ∃ t, Cor f a b t ∧ t ≤ f a.hi y := w2.elim (fun h => ⟨_, c3, h.1⟩) (fun h => ⟨_, c4, h.1⟩)
  have hi2 : ∃ t, Cor f a b t ∧ f a.hi y ≤ t := w2.elim (fun h => ⟨_, c4, h.2⟩) (fun h => ⟨_, c3, h.2⟩)
  rcases w with w | w
  · obtain ⟨t, ht, hl⟩ := lo1
    obtain ⟨u, hu, hh⟩ := hi2
    exact ⟨⟨t, ht, Int.le_trans hl w.1⟩, ⟨u, hu, Int.le_trans w.2 hh⟩⟩
  · obtain ⟨t, ht, hl⟩ := lo2
    obtain ⟨u, hu, hh⟩ := hi1
    exact ⟨⟨t, ht, Int.le_trans hl w.1⟩, ⟨u, hu, Int.le_trans w.2 hh⟩⟩

/-- the corners more -/
def add4 (r : R) (f : Int → Int → Int) (a b : R) : R := addn (addn (addn (addn r (f a.lo b.lo)) (f a.lo b.hi)) (f a.hi b.lo)) (f a.hi b.hi)

theorem hull_add4 {S : Int → Prop} {r : R} (h : Hull S r) (f : Int → Int → Int) (a b : R) (ha : a.lo ≤ a.hi) (hb : b.lo ≤ b.hi) (hf : Btw f a b) : Hull (fun n => S n ∨ Img f a b n) (add4 r f a b) := by
  refine ((((h.add (f a.lo b.lo)).add (f a.lo b.hi)).add (f a.hi b.lo)).add (f a.hi b.hi)).widen ?_ ?_
  · intro n hn
    rcases hn with (((hn | hn) | hn) | hn) | hn
    · exact .inl hn
    · exact .inr ⟨_, _, Int.le_refl _, ha, Int.le_refl _, hb, hn⟩
    · exact .inr ⟨_, _, Int.le_refl _, ha, hb, Int.le_refl _, hn⟩
    · exact .inr ⟨_, _, ha, Int.le_refl _, Int.le_refl _, hb, hn⟩
    · exact .inr ⟨_, _, ha, Int.le_refl _, hb, Int.le_refl _, hn⟩
  · have hc : ∀ t, Cor f a b t → (((S t ∨ t = f a.lo b.lo) ∨ t = f a.lo b.hi) ∨ t = f a.hi b.lo) ∨ t = f a.hi b.hi := by
      intro t ht
      rcases ht with ht | ht | ht | ht
      · exact .inl (.inl (.inl (.inr ht)))
      · exact .inl (.inl (.inr ht))
      · exact .inl (.inr ht)
      · exact .inr ht
    intro n hn
    rcases hn with hn | ⟨x, y, h1, h2, h3, h4, rfl⟩
    · exact ⟨⟨n, .inl (.inl (.inl (.inl hn))), Int.le_refl _⟩, ⟨n, .inl (.inl (.inl (.inl hn))), Int.le_refl _⟩⟩
    · obtain ⟨⟨t, ht, h5⟩, ⟨u, hu, h6⟩⟩ := hf x y h1 h2 h3 h4
      exact ⟨⟨t, hc t ht, h5⟩, ⟨u, hc u hu, h6⟩⟩

/-- operations: 2 sum, 3 difference, else product -/
def ex (op : Int) (x y : Int) : Int := if op = 2 then x + y else if op = 3 then x - y else x * y

theorem mul_way {p q x : Int} (y : Int) (h1 : p ≤ x) (h2 : x ≤ q) : Way (p * y) (q * y) (x * y) := by
  rcases Int.le_total 0 y with h | h
  · exact .inl ⟨Int.mul_le_mul_of_nonneg_right h1 h, Int.mul_le_mul_of_nonneg_right h2 h⟩
  · exact .inr ⟨Int.mul_le_mul_of_nonpos_right h2 h, Int.mul_le_mul_of_nonpos_right h1 h⟩

theorem ex_btw (op : Int) (a b : R) : Btw (ex op) a b := by
  refine btw_of_ways _ _ _ ?_ ?_
  · intro x y h1 h2 _ _
    unfold ex
    split
    · exact .inl (by omega)
    · split
      · exact .inl (by omega)
      · exact mul_way y h1 h2
  · intro x y _ _ h1 h2
    unfold ex
    split
    · exact .inl (by omega)
    · split
      · exact .inr (by omega)
      · rw [Int.mul_comm x b.lo, Int.mul_comm x b.hi, Int.mul_comm x y]
        exact mul_way x h1 h2

/-- the nearest number of 64 bits -/
def clamp (n : Int) : Int := if n < MIN then MIN else if MAX < n then MAX else n
theorem clamp_mono {m n : Int} (h : m ≤ n) : clamp m ≤ clamp n := by
  unfold clamp MIN MAX
  repeat' split
  all_goals omega
theorem clamp_id {n : Int} (h1 : MIN ≤ n) (h2 : n ≤ MAX) : clamp n = n := by
  unfold clamp
  rw [if_neg (by omega), if_neg (by omega)]
theorem clamp_in (n : Int) : MIN ≤ clamp n ∧ clamp n ≤ MAX := by
  unfold clamp MIN MAX
  repeat' split
  all_goals omega

theorem btw_mono {f : Int → Int → Int} {a b : R} (h : Btw f a b) (g : Int → Int) (hg : ∀ m n, m ≤ n → g m ≤ g n) : Btw (fun x y => g (f x y)) a b := by
  intro x y h1 h2 h3 h4
  obtain ⟨⟨t, ht, h5⟩, ⟨u, hu, h6⟩⟩ := h x y h1 h2 h3 h4
  have hc : ∀ t, Cor f a b t → Cor (fun x y => g (f x y)) a b (g t) := by
    intro t ht
    rcases ht with rfl | rfl | rfl | rfl
    · exact .inl rfl
    · exact .inr (.inl rfl)
    · exact .inr (.inr (.inl rfl))
    · exact .inr (.inr (.inr rfl))
  exact ⟨⟨_, hc t ht, hg _ _ h5⟩, ⟨_, hc u hu, hg _ _ h6⟩⟩

/-- what an operation comes to, clipped; and: one didn't fit -/
def cex (op : Int) (x y : Int) : Int := clamp (ex op x y)
def clip3 (op : Int) (a b : R) : R := add4 none (cex op) a b
def fit (n : Int) : Bool := decide (MIN ≤ n) && decide (n ≤ MAX)
def fit4 (op : Int) (a b : R) : Bool := fit (ex op a.lo b.lo) && fit (ex op a.lo b.hi) && fit (ex op a.hi b.lo) && fit (ex op a.hi b.hi)

theorem fit_iff {n : Int} : fit n = true ↔ MIN ≤ n ∧ n ≤ MAX := by simp [fit]

theorem hull_clip3 (op : Int) (a b : R) (ha : a.lo ≤ a.hi) (hb : b.lo ≤ b.hi) : Hull (Img (cex op) a b) (clip3 op a b) :=
  (hull_add4 Hull.nil (cex op) a b ha hb (btw_mono (ex_btw op a b) clamp (fun _ _ h => clamp_mono h))).congr (fun _ => ⟨fun h => h.elim False.elim id, .inr⟩)

theorem fit4_all {op : Int} {a b : R} (h : fit4 op a b = true) {x y : Int} (h1 : a.lo ≤ x) (h2 : x ≤ a.hi) (h3 : b.lo ≤ y) (h4 : y ≤ b.hi) : fit (ex op x y) = true := by
  simp only [fit4, Bool.and_eq_true, fit_iff] at h
  obtain ⟨⟨⟨k1, k2⟩, k3⟩, k4⟩ := h
  obtain ⟨⟨t, ht, h5⟩, ⟨u, hu, h6⟩⟩ := ex_btw op a b x y h1 h2 h3 h4
  have hc : ∀ t, Cor (ex op) a b t → MIN ≤ t ∧ t ≤ MAX := by
    intro t ht
    rcases ht with rfl | rfl | rfl | rfl
    · exact k1
    · exact k2
    · exact k3
    · exact k4
  have := hc t ht
  have := hc u hu
  rw [fit_iff]
  omega

theorem fit4_sub {op : Int} {a b c d : R} (h : fit4 op c d = true) (ha : a.lo ≤ a.hi) (hb : b.lo ≤ b.hi) (h1 : c.lo ≤ a.lo) (h2 : a.hi ≤ c.hi) (h3 : d.lo ≤ b.lo) (h4 : b.hi ≤ d.hi) : fit4 op a b = true := by
  unfold fit4
  rw [fit4_all h h1 (by omega) h3 (by omega), fit4_all h h1 (by omega) (by omega) h4, fit4_all h (by omega) h2 h3 (by omega), fit4_all h (by omega) h2 (by omega) h4]
  rfl

theorem img_sub {f : Int → Int → Int} {a b c d : R} (h1 : c.lo ≤ a.lo) (h2 : a.hi ≤ c.hi) (h3 : d.lo ≤ b.lo) (h4 : b.hi ≤ d.hi) (n : Int) (h : Img f a b n) : Img f c d n := by
  obtain ⟨x, y, k1, k2, k3, k4, e⟩ := h
  exact ⟨x, y, by omega, by omega, by omega, by omega, e⟩

/- quotients -/
theorem tdiv_mono_pos {x x' y : Int} (hy : 0 < y) (h : x ≤ x') : x.tdiv y ≤ x'.tdiv y := by
  rcases Int.le_total 0 x with h0 | h0
  · rw [Int.tdiv_eq_ediv_of_nonneg h0, Int.tdiv_eq_ediv_of_nonneg (by omega)]
    exact Int.ediv_le_ediv hy h
  · have e1 : x.tdiv y = -((-x).tdiv y) := by rw [Int.neg_tdiv, Int.neg_neg]
    have p1 : (-x).tdiv y = (-x) / y := Int.tdiv_eq_ediv_of_nonneg (by omega)
    have q1 : 0 ≤ (-x) / y := Int.ediv_nonneg (by omega) (by omega)
    rcases Int.le_total 0 x' with h1 | h1
    · have p2 : x'.tdiv y = x' / y := Int.tdiv_eq_ediv_of_nonneg h1
      have q2 : 0 ≤ x' / y := Int.ediv_nonneg h1 (by omega)
      omega
    · have e2 : x'.tdiv y = -((-x').tdiv y) := by rw [Int.neg_tdiv, Int.neg_neg]
      have p2 : (-x').tdiv y = (-x') / y := Int.tdiv_eq_ediv_of_nonneg (by omega)
      have := Int.ediv_le_ediv (a := -x') (b := -x) hy (by omega)
      omega
theorem tdiv_way_x {p q x : Int} (y : Int) (hy : y ≠ 0) (h1 : p ≤ x) (h2 : x ≤ q) : Way (p.tdiv y) (q.tdiv y) (x.tdiv y) := by
  rcases Int.lt_or_gt_of_ne hy with h | h
  · have e : ∀ z : Int, z.tdiv y = -(z.tdiv (-y)) := fun z => by rw [Int.tdiv_neg, Int.neg_neg]
    rw [e p, e q, e x]
    have k1 := tdiv_mono_pos (y := -y) (by omega) h1
    have k2 := tdiv_mono_pos (y := -y) (by omega) h2
    exact .inr (by omega)
  · exact .inl ⟨tdiv_mono_pos h h1, tdiv_mono_pos h h2⟩
theorem ediv_anti {x y y' : Int} (hx : 0 ≤ x) (hy : 0 < y) (h : y ≤ y') : x / y' ≤ x / y := by
  rw [Int.le_ediv_iff_mul_le hy]
  have q : 0 ≤ x / y' := Int.ediv_nonneg hx (by omega)
  have k1 := Int.mul_le_mul_of_nonneg_left h q
  have k2 := Int.ediv_mul_le x (b := y') (by omega)
  omega
theorem tdiv_way_pos {p q y : Int} (x : Int) (hp : 0 < p) (h1 : p ≤ y) (h2 : y ≤ q) : Way (x.tdiv p) (x.tdiv q) (x.tdiv y) := by
  rcases Int.le_total 0 x with h0 | h0
  · rw [Int.tdiv_eq_ediv_of_nonneg h0, Int.tdiv_eq_ediv_of_nonneg h0, Int.tdiv_eq_ediv_of_nonneg h0]
    exact .inr ⟨ediv_anti h0 (by omega) h2, ediv_anti h0 hp h1⟩
  · have e : ∀ z : Int, x.tdiv z = -((-x) / z) := fun z => by rw [← Int.tdiv_eq_ediv_of_nonneg (show 0 ≤ -x by omega), Int.neg_tdiv, Int.neg_neg]
    rw [e p, e q, e y]
    have k1 := ediv_anti (x := -x) (by omega) hp h1
    have k2 := ediv_anti (x := -x) (by omega) (show 0 < y by omega) h2
    exact .inl (by omega)
theorem tdiv_way_y {p q y : Int} (x : Int) (hp : 0 < p ∨ q < 0) (h1 : p ≤ y) (h2 : y ≤ q) : Way (x.tdiv p) (x.tdiv q) (x.tdiv y) := by
  rcases hp with hp | hp
  · exact tdiv_way_pos x hp h1 h2
  · have e : ∀ z : Int, x.tdiv z = -(x.tdiv (-z)) := fun z => by rw [Int.tdiv_neg, Int.neg_neg]
    rw [e p, e q, e y]
    have k := tdiv_way_pos (p := -q) (q := -p) (y := -y) x (by omega) (by omega) (by omega)
    rcases k with k | k
    · exact .inl (by omega)
    · exact .inr (by omega)
theorem tdiv_btw (a b : R) (hb : 0 < b.lo ∨ b.hi < 0) : Btw Int.tdiv a b := by
  refine btw_of_ways _ _ _ ?_ ?_
  · intro x y h1 h2 h3 h4
    exact tdiv_way_x y (by omega) h1 h2
  · intro x y _ _ h3 h4
    exact tdiv_way_y x hb h3 h4

def negs (b : R) : R := meet b ⟨MIN, -1⟩
def poss (b : R) : R := meet b ⟨1, MAX⟩
def qpart (r : R) (a p : R) : R := if p.hi < p.lo then r else add4 r Int.tdiv a p
def quot0 (a b : R) : R := qpart (qpart none a (negs b)) a (poss b)
def quotW (a b : R) : Bool := decide (a.lo = MIN) && decide (b.lo ≤ -1) && decide (-1 ≤ b.hi)
def quot (a b : R) : R := if quotW a b = true then all else quot0 a b

theorem made_cases (l h : Int) : (h < l ∧ made l h = none) ∨ (l ≤ h ∧ made l h = ⟨l, h⟩) := by
  unfold made
  split
  · exact .inl ⟨by assumption, rfl⟩
  · exact .inr ⟨by omega, rfl⟩

theorem hull_qpart {S : Int → Prop} {r : R} (h : Hull S r) (a p : R) (ha : a.lo ≤ a.hi) (hp : p.lo ≤ p.hi → 0 < p.lo ∨ p.hi < 0) : Hull (fun n => S n ∨ Img Int.tdiv a p n) (qpart r a p) := by
  unfold qpart
  split
  · exact h.congr fun n => ⟨.inl, fun h => h.elim id (fun ⟨x, y, _, _, h3, h4, _⟩ => by omega)⟩
  · exact hull_add4 h _ a p ha (by omega) (tdiv_btw a p (hp (by omega)))

/-- quotients by numbers that aren't 0 -/
def Quo (a b : R) (n : Int) : Prop := ∃ x y, a.lo ≤ x ∧ x ≤ a.hi ∧ b.lo ≤ y ∧ y ≤ b.hi ∧ y ≠ 0 ∧ n = x.tdiv y

theorem hull_quot0 (a b : R) (ha : a.lo ≤ a.hi) (h1 : MIN ≤ b.lo) (h2 : b.hi ≤ MAX) : Hull (Quo a b) (quot0 a b) := by
  have hn := made_cases (max b.lo MIN) (min b.hi (-1))
  have hp := made_cases (max b.lo 1) (min b.hi MAX)
  have en : (negs b).lo ≤ (negs b).hi → (negs b).hi < 0 := by
    show (made (max b.lo MIN) (min b.hi (-1))).lo ≤ (made (max b.lo MIN) (min b.hi (-1))).hi → (made (max b.lo MIN) (min b.hi (-1))).hi < 0
    rcases hn with ⟨_, e⟩ | ⟨_, e⟩ <;> rw [e]
    · intro h; exact absurd h (by decide)
    · intro _; simp only; omega
  have ep : (poss b).lo ≤ (poss b).hi → 0 < (poss b).lo := by
    show (made (max b.lo 1) (min b.hi MAX)).lo ≤ (made (max b.lo 1) (min b.hi MAX)).hi → 0 < (made (max b.lo 1) (min b.hi MAX)).lo
    rcases hp with ⟨_, e⟩ | ⟨_, e⟩ <;> rw [e]
    · intro h; exact absurd h (by decide)
    · intro _; simp only; omega
  refine (hull_qpart (hull_qpart Hull.nil a (negs b) ha (fun h => .inr (en h))) a (poss b) ha (fun h => .inl (ep h))).congr fun n => ?_
  have in1 : ∀ y, (negs b).lo ≤ y ∧ y ≤ (negs b).hi ↔ b.lo ≤ y ∧ y ≤ b.hi ∧ y < 0 := by
    intro y
    show (made (max b.lo MIN) (min b.hi (-1))).lo ≤ y ∧ y ≤ (made (max b.lo MIN) (min b.hi (-1))).hi ↔ _
    rcases hn with ⟨_, e⟩ | ⟨_, e⟩ <;> rw [e]
    · simp only [none]; omega
    · simp only; omega
  have in2 : ∀ y, (poss b).lo ≤ y ∧ y ≤ (poss b).hi ↔ b.lo ≤ y ∧ y ≤ b.hi ∧ 0 < y := by
    intro y
    show (made (max b.lo 1) (min b.hi MAX)).lo ≤ y ∧ y ≤ (made (max b.lo 1) (min b.hi MAX)).hi ↔ _
    rcases hp with ⟨_, e⟩ | ⟨_, e⟩ <;> rw [e]
    · simp only [none]; omega
    · simp only; omega
  constructor
  · rintro ((h | ⟨x, y, k1, k2, k3, k4, e⟩) | ⟨x, y, k1, k2, k3, k4, e⟩)
    · exact h.elim
    · have := (in1 y).1 ⟨k3, k4⟩; exact ⟨x, y, k1, k2, this.1, this.2.1, by omega, e⟩
    · have := (in2 y).1 ⟨k3, k4⟩; exact ⟨x, y, k1, k2, this.1, this.2.1, by omega, e⟩
  · rintro ⟨x, y, k1, k2, k3, k4, k5, e⟩
    rcases Int.lt_or_gt_of_ne k5 with h | h
    · have := (in1 y).2 ⟨k3, k4, h⟩; exact .inl (.inr ⟨x, y, k1, k2, this.1, this.2, e⟩)
    · have := (in2 y).2 ⟨k3, k4, h⟩; exact .inr ⟨x, y, k1, k2, this.1, this.2, e⟩
end Iv

namespace Iv
/- rests -/
def restK (b : R) : Int := if 0 < b.hi then max (if b.lo < 0 then -(b.lo + 1) else 0) (b.hi - 1) else (if b.lo < 0 then -(b.lo + 1) else 0)
def rests (a b : R) : R := if b.lo = 0 ∧ b.hi = 0 then none else ⟨if a.lo < 0 then max a.lo (-(restK b)) else 0, if 0 < a.hi then min a.hi (restK b) else 0⟩

theorem tmod_bound (x y : Int) (hy : y ≠ 0) : (0 ≤ x → 0 ≤ x.tmod y) ∧ (x ≤ 0 → x.tmod y ≤ 0) ∧ (x.tmod y).natAbs < y.natAbs ∧ (x.tmod y).natAbs ≤ x.natAbs := by
  refine ⟨fun h => Int.tmod_nonneg y h, fun h => ?_, ?_, ?_⟩
  · have := Int.tmod_nonneg y (show 0 ≤ -x by omega)
    rw [Int.neg_tmod] at this
    omega
  · rw [Int.natAbs_tmod]; exact Nat.mod_lt _ (by omega)
  · rw [Int.natAbs_tmod]; exact Nat.mod_le _ _

theorem rests_sound (a b : R) {x y : Int} (h1 : a.lo ≤ x) (h2 : x ≤ a.hi) (h3 : b.lo ≤ y) (h4 : y ≤ b.hi) (hy : y ≠ 0) : (rests a b).lo ≤ x.tmod y ∧ x.tmod y ≤ (rests a b).hi := by
  obtain ⟨k1, k2, k3, k4⟩ := tmod_bound x y hy
  generalize x.tmod y = m at *
  unfold rests
  rw [if_neg (by omega)]
  unfold restK
  simp only
  constructor <;> repeat' split
  all_goals omega

theorem rests_grow (a b c d : R) (ha : a.lo ≤ a.hi) (hb : b.lo ≤ b.hi) (h1 : c.lo ≤ a.lo) (h2 : a.hi ≤ c.hi) (h3 : d.lo ≤ b.lo) (h4 : b.hi ≤ d.hi) : within (rests a b) (rests c d) = true := by
  unfold rests
  by_cases hz : b.lo = 0 ∧ b.hi = 0
  · rw [if_pos hz]; rfl
  · rw [if_neg hz, if_neg (show ¬ (d.lo = 0 ∧ d.hi = 0) by omega)]
    have hk : 0 ≤ restK b ∧ restK b ≤ restK d := by
      unfold restK
      constructor
      · (repeat' split) <;> omega
      · (repeat' split) <;> omega
    generalize restK b = k at *
    generalize restK d = l at *
    simp only [within, has, Bool.or_eq_true, Bool.and_eq_true, decide_eq_true_eq]
    right
    refine ⟨⟨?_, ?_⟩, ?_, ?_⟩ <;> repeat' split
    all_goals omega

/- truths: 7 equal, 8 less, 9 at most -/
def so (op x y : Int) : Bool := if op = 7 then decide (x = y) else if op = 8 then decide (x < y) else decide (x ≤ y)
def val (b : Bool) : Int := if b = true then 1 else 0
def always (op : Int) (a b : R) : Bool := if op = 7 then decide (a.lo = a.hi) && (decide (a.lo = b.lo) && decide (a.hi = b.hi)) else if op = 8 then decide (a.hi < b.lo) else if op = 9 then decide (a.hi ≤ b.lo) else false
def never (op : Int) (a b : R) : Bool := if op = 7 then decide ((meet a b).hi < (meet a b).lo) else if op = 8 then decide (b.hi ≤ a.lo) else if op = 9 then decide (b.hi < a.lo) else false
def truth (op : Int) (a b : R) : R := if a.hi < a.lo ∨ b.hi < b.lo then none else if always op a b = true then of 1 else if never op a b = true then of 0 else ⟨0, 1⟩

theorem meet_empty (a b : R) : (meet a b).hi < (meet a b).lo ↔ min a.hi b.hi < max a.lo b.lo := by
  unfold meet
  rcases made_cases (max a.lo b.lo) (min a.hi b.hi) with ⟨h, e⟩ | ⟨h, e⟩ <;> rw [e]
  simp only [none]; omega

def Tru (op : Int) (a b : R) (n : Int) : Prop := ∃ x y, a.lo ≤ x ∧ x ≤ a.hi ∧ b.lo ≤ y ∧ y ≤ b.hi ∧ n = val (so op x y)

theorem hull_val {P : Bool → Prop} {S : Int → Prop} (e : ∀ n, S n ↔ ∃ t, P t ∧ n = val t) (al nv : Bool) (h1 : al = true → P true ∧ ¬ P false) (h2 : al = false → nv = true → P false ∧ ¬ P true) (h3 : al = false → nv = false → P true ∧ P false) :
    Hull S (if al = true then of 1 else if nv = true then of 0 else ⟨0, 1⟩) := by
  cases al
  · cases nv
    · obtain ⟨p1, p2⟩ := h3 rfl rfl
      rw [if_neg (by decide), if_neg (by decide)]
      refine ⟨fun n hn => ?_, .inr ⟨by decide, (e _).2 ⟨false, p2, rfl⟩, (e _).2 ⟨true, p1, rfl⟩⟩⟩
      obtain ⟨t, _, rfl⟩ := (e n).1 hn
      cases t <;> decide
    · obtain ⟨p1, p2⟩ := h2 rfl rfl
      rw [if_neg (by decide), if_pos rfl]
      refine ⟨fun n hn => ?_, .inr ⟨by decide, (e _).2 ⟨false, p1, rfl⟩, (e _).2 ⟨false, p1, rfl⟩⟩⟩
      obtain ⟨t, ht, rfl⟩ := (e n).1 hn
      cases t
      · decide
      · exact absurd ht p2
  · obtain ⟨p1, p2⟩ := h1 rfl
    rw [if_pos rfl]
    refine ⟨fun n hn => ?_, .inr ⟨by decide, (e _).2 ⟨true, p1, rfl⟩, (e _).2 ⟨true, p1, rfl⟩⟩⟩
    obtain ⟨t, ht, rfl⟩ := (e n).1 hn
    cases t
    · exact absurd ht p2
    · decide

theorem hull_truth (op : Int) (hop : op = 7 ∨ op = 8 ∨ op = 9) (a b : R) (ha : a.lo ≤ a.hi) (hb : b.lo ≤ b.hi) : Hull (Tru op a b) (truth op a b) := by
  unfold truth
  rw [if_neg (by omega)]
  refine hull_val (P := fun t => ∃ x y, a.lo ≤ x ∧ x ≤ a.hi ∧ b.lo ≤ y ∧ y ≤ b.hi ∧ so op x y = t) (fun n => ?_) _ _ ?_ ?_ ?_
  · constructor
    · rintro ⟨x, y, k1, k2, k3, k4, e⟩
      exact ⟨_, ⟨x, y, k1, k2, k3, k4, rfl⟩, e⟩
    · rintro ⟨t, ⟨x, y, k1, k2, k3, k4, rfl⟩, e⟩
      exact ⟨x, y, k1, k2, k3, k4, e⟩
  · rcases hop with rfl | rfl | rfl <;> simp [always, so] <;> intros
    · refine ⟨⟨a.lo, by omega, by omega, by omega, by omega⟩, ?_⟩; intros; omega
    · refine ⟨⟨a.lo, by omega, by omega, b.lo, by omega, by omega, by omega⟩, ?_⟩; intros; omega
    · refine ⟨⟨a.lo, by omega, by omega, b.lo, by omega, by omega, by omega⟩, ?_⟩; intros; omega
  · rcases hop with rfl | rfl | rfl <;> simp [always, never, so, meet_empty] <;> intros
    · refine ⟨⟨a.lo, by omega, by omega, b.lo, by omega, by omega, by omega⟩, ?_⟩; intros; omega
    · refine ⟨⟨a.lo, by omega, by omega, b.lo, by omega, by omega, by omega⟩, ?_⟩; intros; omega
    · refine ⟨⟨a.lo, by omega, by omega, b.lo, by omega, by omega, by omega⟩, ?_⟩; intros; omega
  · rcases hop with rfl | rfl | rfl <;> simp [always, never, so, meet_empty] <;> intros
    · refine ⟨⟨max a.lo b.lo, by omega, by omega, by omega, by omega⟩, ?_⟩
      by_cases h : a.lo = b.lo
      · by_cases h2 : a.lo = a.hi
        · exact ⟨a.lo, by omega, by omega, b.hi, by omega, by omega, by omega⟩
        · exact ⟨a.hi, by omega, by omega, b.lo, by omega, by omega, by omega⟩
      · exact ⟨a.lo, by omega, by omega, b.lo, by omega, by omega, by omega⟩
    · exact ⟨⟨a.lo, by omega, by omega, b.hi, by omega, by omega, by omega⟩, ⟨a.hi, by omega, by omega, b.lo, by omega, by omega, by omega⟩⟩
    · exact ⟨⟨a.lo, by omega, by omega, b.hi, by omega, by omega, by omega⟩, ⟨a.hi, by omega, by omega, b.lo, by omega, by omega, by omega⟩⟩

theorem tru_sub {op : Int} {a b c d : R} (h1 : c.lo ≤ a.lo) (h2 : a.hi ≤ c.hi) (h3 : d.lo ≤ b.lo) (h4 : b.hi ≤ d.hi) (n : Int) (h : Tru op a b n) : Tru op c d n := by
  obtain ⟨x, y, k1, k2, k3, k4, e⟩ := h
  exact ⟨x, y, by omega, by omega, by omega, by omega, e⟩
theorem quo_sub {a b c d : R} (h1 : c.lo ≤ a.lo) (h2 : a.hi ≤ c.hi) (h3 : d.lo ≤ b.lo) (h4 : b.hi ≤ d.hi) (n : Int) (h : Quo a b n) : Quo c d n := by
  obtain ⟨x, y, k1, k2, k3, k4, k5, e⟩ := h
  exact ⟨x, y, by omega, by omega, by omega, by omega, k5, e⟩

/- cuts: 0 less, 1 at most, 2 equal, 3 at least, 4 more -/
def is (num x y : Int) : Bool := if num = 0 then decide (x < y) else if num = 1 then decide (x ≤ y) else if num = 2 then decide (x = y) else if num = 3 then decide (y ≤ x) else if num = 4 then decide (y < x) else true
def cut (num : Int) (a b : R) : R :=
  if a.hi < a.lo ∨ b.hi < b.lo then none
  else if num = 0 then (if b.hi = MIN then none else made a.lo (min a.hi (b.hi - 1)))
  else if num = 1 then made a.lo (min a.hi b.hi)
  else if num = 2 then meet a b
  else if num = 3 then made (max a.lo b.lo) a.hi
  else if num = 4 then (if b.lo = MAX then none else made (max a.lo (b.lo + 1)) a.hi)
  else a
def Left (num : Int) (a b : R) (x : Int) : Prop := a.lo ≤ x ∧ x ≤ a.hi ∧ ∃ y, b.lo ≤ y ∧ y ≤ b.hi ∧ is num x y = true

theorem hull_made {S : Int → Prop} (l h : Int) (e : ∀ n, S n ↔ l ≤ n ∧ n ≤ h) : Hull S (made l h) := by
  rcases made_cases l h with ⟨h1, e1⟩ | ⟨h1, e1⟩ <;> rw [e1]
  · refine ⟨fun n hn => ?_, .inl ⟨rfl, fun n hn => ?_⟩⟩
    · have := (e n).1 hn; omega
    · have := (e n).1 hn; omega
  · exact ⟨fun n hn => (e n).1 hn, .inr ⟨h1, (e _).2 ⟨Int.le_refl _, h1⟩, (e _).2 ⟨h1, Int.le_refl _⟩⟩⟩
theorem hull_no {S : Int → Prop} (e : ∀ n, ¬ S n) : Hull S none := ⟨fun n hn => absurd hn (e n), .inl ⟨rfl, e⟩⟩

theorem hull_cut (num : Int) (a b : R) (ha : a.lo ≤ a.hi) (hb : b.lo ≤ b.hi) (h1 : MIN ≤ a.lo) (h2 : a.hi ≤ MAX) : Hull (Left num a b) (cut num a b) := by
  unfold cut
  rw [if_neg (by omega)]
  by_cases n0 : num = 0
  · subst n0
    rw [if_pos rfl]
    split
    · refine hull_no fun n hn => ?_
      obtain ⟨k1, k2, y, k3, k4, k5⟩ := hn
      simp [is] at k5
      omega
    · refine hull_made _ _ fun n => ⟨?_, fun h => ⟨by omega, by omega, b.hi, by omega, by omega, by simp [is]; omega⟩⟩
      rintro ⟨k1, k2, y, k3, k4, k5⟩
      simp [is] at k5
      omega
  rw [if_neg n0]
  by_cases n1 : num = 1
  · subst n1
    rw [if_pos rfl]
    refine hull_made _ _ fun n => ⟨?_, fun h => ⟨by omega, by omega, b.hi, by omega, by omega, by simp [is]; omega⟩⟩
    rintro ⟨k1, k2, y, k3, k4, k5⟩
    simp [is] at k5
    omega
  rw [if_neg n1]
  by_cases n2 : num = 2
  · subst n2
    rw [if_pos rfl]
    refine hull_made _ _ fun n => ⟨?_, fun h => ⟨by omega, by omega, n, by omega, by omega, by simp [is]⟩⟩
    rintro ⟨k1, k2, y, k3, k4, k5⟩
    simp [is] at k5
    omega
  rw [if_neg n2]
  by_cases n3 : num = 3
  · subst n3
    rw [if_pos rfl]
    refine hull_made _ _ fun n => ⟨?_, fun h => ⟨by omega, by omega, b.lo, by omega, by omega, by simp [is]; omega⟩⟩
    rintro ⟨k1, k2, y, k3, k4, k5⟩
    simp [is] at k5
    omega
  rw [if_neg n3]
  by_cases n4 : num = 4
  · subst n4
    rw [if_pos rfl]
    split
    · refine hull_no fun n hn => ?_
      obtain ⟨k1, k2, y, k3, k4, k5⟩ := hn
      simp [is] at k5
      omega
    · refine hull_made _ _ fun n => ⟨?_, fun h => ⟨by omega, by omega, b.lo, by omega, by omega, by simp [is]; omega⟩⟩
      rintro ⟨k1, k2, y, k3, k4, k5⟩
      simp [is] at k5
      omega
  rw [if_neg n4]
  refine ⟨fun n hn => ⟨hn.1, hn.2.1⟩, .inr ⟨ha, ⟨Int.le_refl _, ha, b.lo, by omega, by omega, ?_⟩, ⟨ha, Int.le_refl _, b.lo, by omega, by omega, ?_⟩⟩⟩ <;> simp [is, n0, n1, n2, n3, n4]

theorem left_sub {num : Int} {a b c d : R} (h1 : c.lo ≤ a.lo) (h2 : a.hi ≤ c.hi) (h3 : d.lo ≤ b.lo) (h4 : b.hi ≤ d.hi) (n : Int) (h : Left num a b n) : Left num c d n := by
  obtain ⟨k1, k2, y, k3, k4, e⟩ := h
  exact ⟨by omega, by omega, y, by omega, by omega, e⟩

/-- is it a sum, a difference, a product? -/
def sums (op : Int) : Bool := decide (op = 2) || decide (op = 3) || decide (op = 4)
def emp (r : R) : Bool := decide (r.hi < r.lo)
def apply (op : Int) (a b : R) : R :=
  if (emp a || emp b) = true then none
  else if sums op = true then (if fit4 op a b = true then clip3 op a b else all)
  else if op = 5 then quot a b
  else if op = 6 then rests a b
  else all
def clip (op : Int) (a b : R) : R := if (emp a || emp b) = true then none else if sums op = true then clip3 op a b else apply op a b
def chk (op : Int) : Int := if 21 ≤ op ∧ op ≤ 23 then op - 19 else op
def fits (op : Int) (a b : R) : Bool := sums (chk op) && (emp a || emp b || fit4 (chk op) a b)

theorem emp_no {r : R} : emp r = false ↔ r.lo ≤ r.hi := by simp [emp]
theorem apply_open (op : Int) {a b : R} (ha : a.lo ≤ a.hi) (hb : b.lo ≤ b.hi) : apply op a b = if sums op = true then (if fit4 op a b = true then clip3 op a b else all) else if op = 5 then quot a b else if op = 6 then rests a b else all := by
  unfold apply; rw [emp_no.2 ha, emp_no.2 hb]; rfl
theorem clip_open (op : Int) {a b : R} (ha : a.lo ≤ a.hi) (hb : b.lo ≤ b.hi) : clip op a b = if sums op = true then clip3 op a b else apply op a b := by
  unfold clip; rw [emp_no.2 ha, emp_no.2 hb]; rfl
theorem truth_open (op : Int) {a b : R} (ha : a.lo ≤ a.hi) (hb : b.lo ≤ b.hi) : truth op a b = if always op a b = true then of 1 else if never op a b = true then of 0 else ⟨0, 1⟩ := by
  unfold truth; rw [if_neg (by omega)]

/-- a range of 64 bits -/
def Wf (r : R) : Prop := (MIN ≤ r.lo ∧ r.lo ≤ MAX) ∧ MIN ≤ r.hi ∧ r.hi ≤ MAX

theorem has_all {n : Int} (h1 : MIN ≤ n) (h2 : n ≤ MAX) : has all n = true := by rw [has_iff]; exact ⟨h1, h2⟩

theorem within_all {S : Int → Prop} {r : R} (h : Hull S r) (e : ∀ n, S n → MIN ≤ n ∧ n ≤ MAX) : within r all = true :=
  h.sub (T := fun n => MIN ≤ n ∧ n ≤ MAX) ⟨fun n hn => hn, .inr ⟨by decide, by decide, by decide⟩⟩ e

theorem quo_in {a b : R} (h1 : MIN ≤ a.lo) (h2 : a.hi ≤ MAX) (hw : quotW a b = false) (n : Int) (h : Quo a b n) : MIN ≤ n ∧ n ≤ MAX := by
  obtain ⟨x, y, k1, k2, k3, k4, k5, rfl⟩ := h
  have hn : (x.tdiv y).natAbs = x.natAbs / y.natAbs := Int.natAbs_tdiv x y
  have hl : x.natAbs / y.natAbs ≤ x.natAbs := Nat.div_le_self _ _
  by_cases hm : x = MIN
  · have hy : y ≠ -1 := by
      rintro rfl
      simp [quotW] at hw
      have := hw (by omega) k3
      omega
    by_cases hy1 : y = 1
    · subst hy1
      rw [Int.tdiv_one]
      omega
    · have h2 : x.natAbs / y.natAbs ≤ x.natAbs / 2 := Nat.div_le_div_left (by omega) (by omega)
      unfold MIN MAX at *
      omega
  · unfold MIN MAX at *
    omega

theorem quot_within {a b c d : R} (wc : Wf c) (wd : Wf d) (ha : a.lo ≤ a.hi) (hb : b.lo ≤ b.hi) (h1 : c.lo ≤ a.lo) (h2 : a.hi ≤ c.hi) (h3 : d.lo ≤ b.lo) (h4 : b.hi ≤ d.hi) : within (quot a b) (quot c d) = true := by
  obtain ⟨⟨c1, _⟩, _, c2⟩ := wc
  obtain ⟨⟨d1, _⟩, _, d2⟩ := wd
  have ka := hull_quot0 a b ha (by omega) (by omega)
  have kc := hull_quot0 c d (by omega) (by omega) (by omega)
  unfold quot
  rcases Bool.eq_false_or_eq_true (quotW c d) with w | w
  · rw [w, if_pos rfl]
    rcases Bool.eq_false_or_eq_true (quotW a b) with v | v
    · rw [v, if_pos rfl]; decide
    · rw [v, if_neg (by decide)]
      exact within_all ka (quo_in (by omega) (by omega) v)
  · have v : quotW a b = false := by
      simp [quotW] at w ⊢
      intro e f
      have := w (by omega) (by omega)
      omega
    rw [w, v, if_neg (by decide)]
    exact ka.sub kc (quo_sub h1 h2 h3 h4)

theorem cex_in (op : Int) (a b : R) (n : Int) (h : Img (cex op) a b n) : MIN ≤ n ∧ n ≤ MAX := by
  obtain ⟨x, y, _, _, _, _, rfl⟩ := h
  exact clamp_in _


theorem rests_all {a b : R} (wa : Wf a) : within (rests a b) all = true := by
  obtain ⟨⟨c1, c2⟩, c3, c4⟩ := wa
  unfold rests
  split
  · rfl
  · have hk : 0 ≤ restK b := by
      unfold restK
      repeat' split
      all_goals omega
    generalize restK b = k at *
    unfold all
    simp only [within, has, Bool.or_eq_true, Bool.and_eq_true, decide_eq_true_eq]
    right
    unfold MIN MAX at *
    refine ⟨⟨?_, ?_⟩, ?_, ?_⟩ <;> repeat' split
    all_goals omega

theorem apply_grow (op : Int) {a b c d : R} (wc : Wf c) (wd : Wf d) (ha : a.lo ≤ a.hi) (hb : b.lo ≤ b.hi) (h1 : c.lo ≤ a.lo) (h2 : a.hi ≤ c.hi) (h3 : d.lo ≤ b.lo) (h4 : b.hi ≤ d.hi) : within (apply op a b) (apply op c d) = true := by
  rw [apply_open op ha hb, apply_open op (show c.lo ≤ c.hi by omega) (show d.lo ≤ d.hi by omega)]
  rcases Bool.eq_false_or_eq_true (sums op) with hs | hs
  · rw [if_pos hs, if_pos hs]
    have ka := hull_clip3 op a b ha hb
    have kc := hull_clip3 op c d (by omega) (by omega)
    rcases Bool.eq_false_or_eq_true (fit4 op c d) with w | w
    · rw [w, fit4_sub w ha hb h1 h2 h3 h4, if_pos rfl, if_pos rfl]
      exact ka.sub kc (img_sub h1 h2 h3 h4)
    · rw [w]
      show within _ all = true
      rcases Bool.eq_false_or_eq_true (fit4 op a b) with v | v
      · rw [v]; exact within_all ka (cex_in op a b)
      · rw [v]; show within all all = true; decide
  · have hs' : ¬ sums op = true := by rw [hs]; decide
    rw [if_neg hs', if_neg hs']
    by_cases h5 : op = 5
    · rw [if_pos h5, if_pos h5]; exact quot_within wc wd ha hb h1 h2 h3 h4
    · rw [if_neg h5, if_neg h5]
      by_cases h6 : op = 6
      · rw [if_pos h6, if_pos h6]; exact rests_grow a b c d ha hb h1 h2 h3 h4
      · rw [if_neg h6, if_neg h6]; decide

theorem clip_grow (op : Int) {a b c d : R} (wc : Wf c) (wd : Wf d) (ha : a.lo ≤ a.hi) (hb : b.lo ≤ b.hi) (h1 : c.lo ≤ a.lo) (h2 : a.hi ≤ c.hi) (h3 : d.lo ≤ b.lo) (h4 : b.hi ≤ d.hi) : within (clip op a b) (clip op c d) = true := by
  rw [clip_open op ha hb, clip_open op (show c.lo ≤ c.hi by omega) (show d.lo ≤ d.hi by omega)]
  by_cases hs : sums op = true
  · rw [if_pos hs, if_pos hs]
    exact (hull_clip3 op a b ha hb).sub (hull_clip3 op c d (by omega) (by omega)) (img_sub h1 h2 h3 h4)
  · rw [if_neg hs, if_neg hs]
    exact apply_grow op wc wd ha hb h1 h2 h3 h4

theorem truth_grow (op : Int) {a b c d : R} (ha : a.lo ≤ a.hi) (hb : b.lo ≤ b.hi) (h1 : c.lo ≤ a.lo) (h2 : a.hi ≤ c.hi) (h3 : d.lo ≤ b.lo) (h4 : b.hi ≤ d.hi) : within (truth op a b) (truth op c d) = true := by
  by_cases hop : op = 7 ∨ op = 8 ∨ op = 9
  · exact (hull_truth op hop a b ha hb).sub (hull_truth op hop c d (by omega) (by omega)) (tru_sub h1 h2 h3 h4)
  · have e : ∀ a b : R, always op a b = false ∧ never op a b = false := fun a b => by
      unfold always never
      rw [if_neg (by omega), if_neg (by omega), if_neg (by omega), if_neg (by omega), if_neg (by omega), if_neg (by omega)]
      exact ⟨rfl, rfl⟩
    rw [truth_open op ha hb, truth_open op (show c.lo ≤ c.hi by omega) (show d.lo ≤ d.hi by omega), (e a b).1, (e a b).2, (e c d).1, (e c d).2]
    decide

theorem cut_grow (num : Int) {a b c d : R} (wc : Wf c) (ha : a.lo ≤ a.hi) (hb : b.lo ≤ b.hi) (h1 : c.lo ≤ a.lo) (h2 : a.hi ≤ c.hi) (h3 : d.lo ≤ b.lo) (h4 : b.hi ≤ d.hi) : within (cut num a b) (cut num c d) = true := by
  obtain ⟨⟨c1, _⟩, _, c2⟩ := wc
  exact (hull_cut num a b ha hb (by omega) (by omega)).sub (hull_cut num c d (by omega) (by omega) (by omega) (by omega)) (left_sub h1 h2 h3 h4)

theorem fits_grow (op : Int) {a b c d : R} (ha : a.lo ≤ a.hi) (hb : b.lo ≤ b.hi) (h1 : c.lo ≤ a.lo) (h2 : a.hi ≤ c.hi) (h3 : d.lo ≤ b.lo) (h4 : b.hi ≤ d.hi) (h : fits op c d = true) : fits op a b = true := by
  unfold fits at *
  rw [emp_no.2 (show c.lo ≤ c.hi by omega), emp_no.2 (show d.lo ≤ d.hi by omega)] at h
  simp only [Bool.false_or, Bool.and_eq_true] at h
  rw [h.1, fit4_sub h.2 ha hb h1 h2 h3 h4]
  simp

/- soundness -/
theorem apply_sound3 {op : Int} (hop : sums op = true) {a b : R} {x y : Int} (h1 : a.lo ≤ x) (h2 : x ≤ a.hi) (h3 : b.lo ≤ y) (h4 : y ≤ b.hi) (n : Int) (hn : MIN ≤ n ∧ n ≤ MAX) (hf : fit (ex op x y) = true → n = ex op x y) : has (apply op a b) n = true := by
  rw [apply_open op (show a.lo ≤ a.hi by omega) (show b.lo ≤ b.hi by omega), if_pos hop]
  split
  · rename_i hw
    have hq := fit4_all hw h1 h2 h3 h4
    have e := hf hq
    have := (hull_clip3 op a b (by omega) (by omega)).only n ⟨x, y, h1, h2, h3, h4, by unfold cex; rw [clamp_id (fit_iff.1 hq).1 (fit_iff.1 hq).2, e]⟩
    rw [has_iff]; exact this
  · exact has_all hn.1 hn.2
theorem clip_sound {op : Int} (hop : sums op = true) {a b : R} {x y : Int} (h1 : a.lo ≤ x) (h2 : x ≤ a.hi) (h3 : b.lo ≤ y) (h4 : y ≤ b.hi) (hq : fit (ex op x y) = true) : has (clip op a b) (ex op x y) = true := by
  rw [clip_open op (show a.lo ≤ a.hi by omega) (show b.lo ≤ b.hi by omega), if_pos hop]
  have := (hull_clip3 op a b (by omega) (by omega)).only (ex op x y) ⟨x, y, h1, h2, h3, h4, by unfold cex; rw [clamp_id (fit_iff.1 hq).1 (fit_iff.1 hq).2]⟩
  rw [has_iff]; exact this
theorem apply_div {a b : R} (wa : Wf a) (wb : Wf b) {x y : Int} (h1 : a.lo ≤ x) (h2 : x ≤ a.hi) (h3 : b.lo ≤ y) (h4 : y ≤ b.hi) (hy : y ≠ 0) (n : Int) (hn : MIN ≤ n ∧ n ≤ MAX) (hf : fit (x.tdiv y) = true → n = x.tdiv y) : has (apply 5 a b) n = true := by
  obtain ⟨⟨c1, _⟩, _, c2⟩ := wa
  obtain ⟨⟨d1, _⟩, _, d2⟩ := wb
  rw [apply_open 5 (show a.lo ≤ a.hi by omega) (show b.lo ≤ b.hi by omega), if_neg (by decide), if_pos rfl]
  unfold quot
  split
  · exact has_all hn.1 hn.2
  · rename_i hw
    have hw : quotW a b = false := by simpa using hw
    have q : Quo a b (x.tdiv y) := ⟨x, y, h1, h2, h3, h4, hy, rfl⟩
    have i := quo_in c1 c2 hw _ q
    rw [hf (fit_iff.2 i), has_iff]
    exact (hull_quot0 a b (by omega) d1 d2).only _ q
theorem apply_rem {a b : R} {x y : Int} (h1 : a.lo ≤ x) (h2 : x ≤ a.hi) (h3 : b.lo ≤ y) (h4 : y ≤ b.hi) (hy : y ≠ 0) : has (apply 6 a b) (x.tmod y) = true := by
  rw [apply_open 6 (show a.lo ≤ a.hi by omega) (show b.lo ≤ b.hi by omega), if_neg (by decide), if_neg (by decide), if_pos rfl, has_iff]
  exact rests_sound a b h1 h2 h3 h4 hy
theorem truth_sound {op : Int} (hop : op = 7 ∨ op = 8 ∨ op = 9) {a b : R} {x y : Int} (h1 : a.lo ≤ x) (h2 : x ≤ a.hi) (h3 : b.lo ≤ y) (h4 : y ≤ b.hi) : has (truth op a b) (val (so op x y)) = true := by
  rw [has_iff]
  exact (hull_truth op hop a b (by omega) (by omega)).only _ ⟨x, y, h1, h2, h3, h4, rfl⟩
theorem cut_sound (num : Int) {a b : R} (wa : Wf a) {x y : Int} (h1 : a.lo ≤ x) (h2 : x ≤ a.hi) (h3 : b.lo ≤ y) (h4 : y ≤ b.hi) : (has (cut num a b) x || !is num x y) = true := by
  obtain ⟨⟨c1, _⟩, _, c2⟩ := wa
  rcases Bool.eq_false_or_eq_true (is num x y) with e | e
  · have := (hull_cut num a b (by omega) (by omega) c1 c2).only x ⟨h1, h2, y, h3, h4, e⟩
    rw [has_iff.2 this]; rfl
  · rw [e]; simp
end Iv
