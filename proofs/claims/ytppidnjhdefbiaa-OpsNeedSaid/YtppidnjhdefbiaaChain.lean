/- Plain laws on least sums of chains of facts: what the rounds of the program and of the document come to is the same. No program in sight. -/
namespace Chain

/-- a fact: a is at most b and c -/
structure Fct where
  a : Nat
  b : Nat
  c : Int

def omin : Option Int → Option Int → Option Int
  | none, y => y
  | some x, none => some x
  | some x, some y => some (if y < x then y else x)

theorem omin_none_left (x : Option Int) : omin none x = x := rfl
theorem omin_none_right (x : Option Int) : omin x none = x := by cases x <;> rfl
theorem omin_comm (x y : Option Int) : omin x y = omin y x := by
  cases x <;> cases y <;> simp [omin]
  repeat' split
  all_goals omega
theorem omin_assoc (x y z : Option Int) : omin (omin x y) z = omin x (omin y z) := by
  cases x <;> cases y <;> cases z <;> simp [omin]
  repeat' split
  all_goals omega
theorem omin_self (x : Option Int) : omin x x = x := by
  cases x <;> simp [omin]
theorem omin_absorb (x y : Option Int) : omin (omin x y) y = omin x y := by
  rw [omin_assoc, omin_self]
theorem omin_swap (a b c d : Option Int) : omin (omin a b) (omin c d) = omin (omin a c) (omin b d) := by
  rw [omin_assoc, omin_assoc, ← omin_assoc b c d, omin_comm b c, omin_assoc c b d]

/-- one fact more, at one node -/
def upd (now : Nat → Option Int) (nx : Nat → Option Int) (f : Fct) : Nat → Option Int := fun v =>
  if v = f.a then omin (nx v) ((now f.b).map (· + f.c)) else nx v

def relax (now : Nat → Option Int) (l : List Fct) (init : Nat → Option Int) : Nat → Option Int := l.foldl (upd now) init

def F (now : Nat → Option Int) (l : List Fct) : Nat → Option Int := relax now l (fun _ => none)

theorem relax_cons (now : Nat → Option Int) (f : Fct) (l : List Fct) (init : Nat → Option Int) : relax now (f :: l) init = relax now l (upd now init f) := rfl

theorem upd_split (now init : Nat → Option Int) (f : Fct) (v : Nat) : upd now init f v = omin (init v) (upd now (fun _ => none) f v) := by
  unfold upd
  split
  · rw [omin_none_left]
  · rw [omin_none_right]

theorem relax_init (now : Nat → Option Int) (l : List Fct) : ∀ (init : Nat → Option Int) (v : Nat), relax now l init v = omin (init v) (F now l v) := by
  induction l with
  | nil => intro init v; simp [relax, F, omin_none_right]
  | cons f l ih =>
    intro init v
    have e : F now (f :: l) v = omin (upd now (fun _ => none) f v) (F now l v) := by
      show relax now (f :: l) (fun _ => none) v = _
      rw [relax_cons, ih]
    rw [relax_cons, ih, e, upd_split, omin_assoc]

theorem map_omin (x y : Option Int) (c : Int) : (omin x y).map (· + c) = omin (x.map (· + c)) (y.map (· + c)) := by
  cases x <;> cases y <;> simp [omin]
  repeat' split
  all_goals omega

theorem F_omin (X Y : Nat → Option Int) (l : List Fct) : ∀ v, F (fun u => omin (X u) (Y u)) l v = omin (F X l v) (F Y l v) := by
  induction l with
  | nil => intro v; rfl
  | cons f l ih =>
    intro v
    have e : ∀ Z : Nat → Option Int, F Z (f :: l) v = omin (upd Z (fun _ => none) f v) (F Z l v) := fun Z => by
      show relax Z (f :: l) (fun _ => none) v = _
      rw [relax_cons, relax_init]
    rw [e, e, e, ih, omin_swap]
    congr 1
    unfold upd
    split
    · rw [map_omin]; simp [omin_none_left]
    · rfl

/-- the least sum of chains of just k facts, from b on -/
def E (l : List Fct) (b : Nat) : Nat → Nat → Option Int
  | 0 => fun v => if v = b then some 0 else none
  | k + 1 => F (E l b k) l

/-- of at most k facts -/
def M (l : List Fct) (b : Nat) : Nat → Nat → Option Int
  | 0 => E l b 0
  | k + 1 => fun v => omin (M l b k v) (E l b (k + 1) v)

/-- what the program's rounds come to -/
def N (l : List Fct) (b : Nat) : Nat → Nat → Option Int
  | 0 => E l b 0
  | k + 1 => relax (N l b k) l (N l b k)

theorem M_step (l : List Fct) (b : Nat) : ∀ k v, omin (M l b k v) (F (M l b k) l v) = M l b (k + 1) v := by
  intro k
  induction k with
  | zero => intro v; rfl
  | succ k ih =>
    intro v
    have h1 : F (M l b (k + 1)) l v = omin (F (M l b k) l v) (E l b (k + 2) v) := by
      show F (fun u => omin (M l b k u) (E l b (k + 1) u)) l v = _
      rw [F_omin]; rfl
    rw [h1, ← omin_assoc, ← ih v, omin_absorb]
    rw [ih v]; rfl

theorem N_eq_M (l : List Fct) (b : Nat) : ∀ k, N l b k = M l b k := by
  intro k
  induction k with
  | zero => rfl
  | succ k ih =>
    funext v
    show relax (N l b k) l (N l b k) v = _
    rw [ih, relax_init, M_step]

/-- a round that changes nothing: nor does any further one -/
theorem N_stop (l : List Fct) (b k : Nat) (h : N l b (k + 1) = N l b k) : ∀ j, N l b (k + j) = N l b k := by
  intro j
  induction j with
  | zero => rfl
  | succ j ih =>
    show relax (N l b (k + j)) l (N l b (k + j)) = _
    rw [ih]; exact h

/-- where all facts hold, what follows holds -/
theorem F_sound (l : List Fct) (x : Nat → Int) (y : Int) (h : ∀ f ∈ l, x f.a ≤ x f.b + f.c) (X : Nat → Option Int) (hX : ∀ u s, X u = some s → x u ≤ y + s) :
    ∀ (init : Nat → Option Int), (∀ u s, init u = some s → x u ≤ y + s) → ∀ u s, relax X l init u = some s → x u ≤ y + s := by
  induction l with
  | nil => intro init hi u s e; exact hi u s e
  | cons f l ih =>
    intro init hi u s e
    rw [relax_cons] at e
    refine ih (fun g hg => h g (List.mem_cons_of_mem _ hg)) (upd X init f) ?_ u s e
    intro u s e
    unfold upd at e
    split at e
    · rename_i hu
      subst hu
      have hf := h f List.mem_cons_self
      cases h1 : init f.a with
      | none =>
        rw [h1, omin_none_left] at e
        cases h2 : X f.b with
        | none => rw [h2] at e; cases e
        | some t => rw [h2] at e; simp at e; have := hX _ _ h2; omega
      | some t1 =>
        have k1 := hi _ _ h1
        cases h2 : X f.b with
        | none => rw [h1, h2] at e; simp [omin] at e; omega
        | some t =>
          have := hX _ _ h2
          rw [h1, h2] at e; simp [omin] at e
          split at e <;> omega
    · exact hi u s e

theorem E_sound (l : List Fct) (b : Nat) (x : Nat → Int) (h : ∀ f ∈ l, x f.a ≤ x f.b + f.c) : ∀ k u s, E l b k u = some s → x u ≤ x b + s := by
  intro k
  induction k with
  | zero =>
    intro u s e
    simp only [E] at e
    split at e
    · rename_i h1; subst h1; cases e; omega
    · cases e
  | succ k ih => intro u s e; exact F_sound l x (x b) h _ ih _ (by intro u s e; cases e) u s e

theorem N_sound (l : List Fct) (b : Nat) (x : Nat → Int) (h : ∀ f ∈ l, x f.a ≤ x f.b + f.c) : ∀ k u s, N l b k u = some s → x u ≤ x b + s := by
  intro k
  induction k with
  | zero => intro u s e; exact E_sound l b x h 0 u s e
  | succ k ih => intro u s e; exact F_sound l x (x b) h _ ih _ ih u s e

/-- bounds -/
theorem F_bound (l : List Fct) (C : Int) (h : ∀ f ∈ l, -C ≤ f.c ∧ f.c ≤ C) (X : Nat → Option Int) (Y : Int) (hX : ∀ u s, X u = some s → -Y ≤ s ∧ s ≤ Y) (_hC : 0 ≤ C) :
    ∀ (init : Nat → Option Int), (∀ u s, init u = some s → -(Y + C) ≤ s ∧ s ≤ Y + C) → ∀ u s, relax X l init u = some s → -(Y + C) ≤ s ∧ s ≤ Y + C := by
  induction l with
  | nil => intro init hi u s e; exact hi u s e
  | cons f l ih =>
    intro init hi u s e
    rw [relax_cons] at e
    refine ih (fun g hg => h g (List.mem_cons_of_mem _ hg)) (upd X init f) ?_ u s e
    intro u s e
    unfold upd at e
    split at e
    · rename_i hu
      subst hu
      have hf := h f List.mem_cons_self
      cases h1 : init f.a with
      | none =>
        rw [h1, omin_none_left] at e
        cases h2 : X f.b with
        | none => rw [h2] at e; cases e
        | some t => rw [h2] at e; simp at e; have := hX _ _ h2; omega
      | some t1 =>
        have k1 := hi _ _ h1
        cases h2 : X f.b with
        | none => rw [h1, h2] at e; simp [omin] at e; omega
        | some t =>
          have := hX _ _ h2
          rw [h1, h2] at e; simp [omin] at e
          split at e <;> omega
    · exact hi u s e

theorem E_bound (l : List Fct) (b : Nat) (C : Int) (hC : 0 ≤ C) (h : ∀ f ∈ l, -C ≤ f.c ∧ f.c ≤ C) : ∀ (k : Nat) u s, E l b k u = some s → -(k * C) ≤ s ∧ s ≤ k * C := by
  intro k
  induction k with
  | zero => intro u s e; simp [E] at e; omega
  | succ k ih =>
    intro u s e
    have := F_bound l C h (E l b k) (k * C) ih hC (fun _ => none) (by intro u s e; cases e) u s e
    rw [show ((k + 1 : Nat) : Int) * C = k * C + C by rw [Int.natCast_add, Int.add_mul]; simp]
    exact this

theorem N_bound (l : List Fct) (b : Nat) (C : Int) (hC : 0 ≤ C) (h : ∀ f ∈ l, -C ≤ f.c ∧ f.c ≤ C) : ∀ (k : Nat) u s, N l b k u = some s → -(k * C) ≤ s ∧ s ≤ k * C := by
  intro k
  induction k with
  | zero => intro u s e; simp [N, E] at e; omega
  | succ k ih =>
    intro u s e
    have := F_bound l C h (N l b k) (k * C) ih hC (N l b k) (by intro u s e; have := ih u s e; omega) u s e
    rw [show ((k + 1 : Nat) : Int) * C = k * C + C by rw [Int.natCast_add, Int.add_mul]; simp]
    exact this

end Chain
