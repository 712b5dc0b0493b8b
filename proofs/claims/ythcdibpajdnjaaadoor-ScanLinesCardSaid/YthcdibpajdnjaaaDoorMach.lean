/- Plain: a text's lines and words, sign by sign. -/
import Derived.Test.YthcdibpajdnjaaaDoorText
namespace Go.Proofs.YthcdibpajdnjaaaDoor

def endw (ws : List (List UInt8)) (word : List UInt8) : List (List UInt8) := if word = [] then ws else ws ++ [word]
def emit (n : Nat) (ws : List (List UInt8)) : List (Nat × List (List UInt8)) := if ws = [] then [] else [(n, ws)]
/-- what is still to be told, from a state on -/
def mach : List UInt8 → Nat → List (List UInt8) → List UInt8 → Bool → List (Nat × List (List UInt8))
  | [], n, ws, word, _ => emit n (endw ws word)
  | b :: l, n, ws, word, out =>
    if b = 10 then emit n (endw ws word) ++ mach l (n + 1) [] [] false
    else if out = true then mach l n ws word true
    else if b = 35 then mach l n (endw ws word) [] true
    else if b = 32 then mach l n (endw ws word) [] false
    else mach l n ws (word ++ [b]) false
/-- a line's words, from a state on -/
def fin : List UInt8 → List (List UInt8) → List UInt8 → Bool → List (List UInt8)
  | [], ws, word, _ => endw ws word
  | b :: l, ws, word, out =>
    if out = true then fin l ws word true
    else if b = 35 then fin l (endw ws word) [] true
    else if b = 32 then fin l (endw ws word) [] false
    else fin l ws (word ++ [b]) false

theorem mach_lf (l : List UInt8) (n : Nat) (ws : List (List UInt8)) (word : List UInt8) (out : Bool) : mach (10 :: l) n ws word out = emit n (endw ws word) ++ mach l (n + 1) [] [] false := if_pos rfl
theorem mach_out {b : UInt8} (h : b ≠ 10) (l : List UInt8) (n : Nat) (ws : List (List UInt8)) (word : List UInt8) : mach (b :: l) n ws word true = mach l n ws word true := by
  show (if b = 10 then _ else if true = true then mach l n ws word true else _) = _
  rw [if_neg h, if_pos rfl]
theorem mach_hash (l : List UInt8) (n : Nat) (ws : List (List UInt8)) (word : List UInt8) : mach (35 :: l) n ws word false = mach l n (endw ws word) [] true := by
  show (if (35 : UInt8) = 10 then _ else if false = true then _ else if (35 : UInt8) = 35 then mach l n (endw ws word) [] true else _) = _
  rw [if_neg (by decide), if_neg (by decide), if_pos rfl]
theorem mach_blank (l : List UInt8) (n : Nat) (ws : List (List UInt8)) (word : List UInt8) : mach (32 :: l) n ws word false = mach l n (endw ws word) [] false := by
  show (if (32 : UInt8) = 10 then _ else if false = true then _ else if (32 : UInt8) = 35 then _ else if (32 : UInt8) = 32 then mach l n (endw ws word) [] false else _) = _
  rw [if_neg (by decide), if_neg (by decide), if_neg (by decide), if_pos rfl]
theorem mach_sign {b : UInt8} (h1 : b ≠ 10) (h2 : b ≠ 35) (h3 : b ≠ 32) (l : List UInt8) (n : Nat) (ws : List (List UInt8)) (word : List UInt8) : mach (b :: l) n ws word false = mach l n ws (word ++ [b]) false := by
  show (if b = 10 then _ else if false = true then _ else if b = 35 then _ else if b = 32 then _ else mach l n ws (word ++ [b]) false) = _
  rw [if_neg h1, if_neg (by decide), if_neg h2, if_neg h3]
theorem mach_wide {e : List UInt8} (hh : ∀ b ∈ e, 128 ≤ b.toNat) (l : List UInt8) (n : Nat) (ws : List (List UInt8)) : ∀ word, mach (e ++ l) n ws word false = mach l n ws (word ++ e) false := by
  induction e with
  | nil => intro word; simp
  | cons b e ih =>
    intro word
    have hb := hh b (by simp)
    rw [List.cons_append, mach_sign (by rintro rfl; simp at hb) (by rintro rfl; simp at hb) (by rintro rfl; simp at hb), ih (fun x hx => hh x (by simp [hx]))]
    simp
theorem mach_wide_out {e : List UInt8} (hh : ∀ b ∈ e, 128 ≤ b.toNat) (l : List UInt8) (n : Nat) (ws : List (List UInt8)) (word : List UInt8) : mach (e ++ l) n ws word true = mach l n ws word true := by
  induction e with
  | nil => rfl
  | cons b e ih =>
    have hb := hh b (by simp)
    rw [List.cons_append, mach_out (by rintro rfl; simp at hb), ih (fun x hx => hh x (by simp [hx]))]

theorem fin_out (p : List UInt8) (ws : List (List UInt8)) (word : List UInt8) : fin p ws word true = endw ws word := by
  induction p with
  | nil => rfl
  | cons b p ih => show (if true = true then fin p ws word true else _) = _; rw [if_pos rfl, ih]
theorem fin_wl (p : List UInt8) : ∀ ws word, fin p ws word false = ws ++ wl word (before 35 p) := by
  induction p with
  | nil => intro ws word; by_cases h : word = [] <;> simp [fin, endw, before, wl, h]
  | cons b p ih =>
    intro ws word
    show (if false = true then _ else if b = 35 then fin p (endw ws word) [] true else if b = 32 then fin p (endw ws word) [] false else fin p ws (word ++ [b]) false) = _
    rw [if_neg (by decide)]
    unfold before
    by_cases h1 : b = 35
    · rw [if_pos h1, if_pos h1, fin_out]
      by_cases h : word = [] <;> simp [endw, wl, h]
    · rw [if_neg h1, if_neg h1]
      by_cases h2 : b = 32
      · rw [if_pos h2, ih]
        by_cases h : word = [] <;> simp [endw, wl, h, h2]
      · rw [if_neg h2, ih]
        simp [wl, h2]
theorem fin_t (b : UInt8) (l : List UInt8) (ws : List (List UInt8)) (word : List UInt8) : fin (b :: l) ws word true = fin l ws word true := rfl
theorem fin_hash (l : List UInt8) (ws : List (List UInt8)) (word : List UInt8) : fin (35 :: l) ws word false = fin l (endw ws word) [] true := rfl
theorem fin_blank (l : List UInt8) (ws : List (List UInt8)) (word : List UInt8) : fin (32 :: l) ws word false = fin l (endw ws word) [] false := rfl
theorem fin_sign {b : UInt8} (h2 : b ≠ 35) (h3 : b ≠ 32) (l : List UInt8) (ws : List (List UInt8)) (word : List UInt8) : fin (b :: l) ws word false = fin l ws (word ++ [b]) false := by
  show (if false = true then _ else if b = 35 then _ else if b = 32 then _ else fin l ws (word ++ [b]) false) = _
  rw [if_neg (by decide), if_neg h2, if_neg h3]
theorem mach_last (p : List UInt8) (h : ∀ b ∈ p, b ≠ 10) (n : Nat) : ∀ ws word out, mach p n ws word out = emit n (fin p ws word out) := by
  induction p with
  | nil => intro ws word out; rfl
  | cons b p ih =>
    intro ws word out
    have hb := h b (by simp)
    have ih := ih (fun x hx => h x (by simp [hx]))
    cases out with
    | true => rw [mach_out hb, fin_t, ih]
    | false =>
      by_cases h1 : b = 35
      · subst h1; rw [mach_hash, fin_hash, ih]
      · by_cases h2 : b = 32
        · subst h2; rw [mach_blank, fin_blank, ih]
        · rw [mach_sign hb h1 h2, fin_sign h1 h2, ih]
theorem mach_line (p r : List UInt8) (h : ∀ b ∈ p, b ≠ 10) (n : Nat) : ∀ ws word out, mach (p ++ 10 :: r) n ws word out = emit n (fin p ws word out) ++ mach r (n + 1) [] [] false := by
  induction p with
  | nil => intro ws word out; exact mach_lf _ _ _ _ _
  | cons b p ih =>
    intro ws word out
    have hb := h b (by simp)
    have ih := ih (fun x hx => h x (by simp [hx]))
    rw [List.cons_append]
    cases out with
    | true => rw [mach_out hb, fin_t, ih]
    | false =>
      by_cases h1 : b = 35
      · subst h1; rw [mach_hash, fin_hash, ih]
      · by_cases h2 : b = 32
        · subst h2; rw [mach_blank, fin_blank, ih]
        · rw [mach_sign hb h1 h2, fin_sign h1 h2, ih]
theorem split_first (c : UInt8) (l : List UInt8) : (∀ b ∈ l, b ≠ c) ∨ ∃ p r, l = p ++ c :: r ∧ ∀ b ∈ p, b ≠ c := by
  induction l with
  | nil => left; simp
  | cons b l ih =>
    by_cases hb : b = c
    · right; exact ⟨[], l, by simp [hb], by simp⟩
    · rcases ih with h | ⟨p, r, h1, h2⟩
      · left; intro x hx; rcases List.mem_cons.1 hx with rfl | hx; exact hb; exact h x hx
      · right; exact ⟨b :: p, r, by simp [h1], fun x hx => by rcases List.mem_cons.1 hx with rfl | hx; exact hb; exact h2 x hx⟩
theorem mach_numbered : ∀ (k : Nat) (l : List UInt8), l.length ≤ k → ∀ n, mach l n [] [] false = numbered n (splitOn 10 l) := by
  intro k
  induction k with
  | zero =>
    intro l h n
    obtain rfl : l = [] := List.eq_nil_of_length_eq_zero (by omega)
    simp [mach, emit, endw, splitOn, numbered, wordsOf, before, wl]
  | succ k ih =>
    intro l h n
    have hcons : ∀ p ps, numbered n (p :: ps) = emit n (wordsOf p) ++ numbered (n + 1) ps := fun p ps => by
      by_cases h : wordsOf p = [] <;> simp [numbered, emit, h]
    have hfin : ∀ p, fin p [] [] false = wordsOf p := fun p => by rw [fin_wl]; simp [wordsOf]
    rcases split_first 10 l with h1 | ⟨p, r, rfl, h1⟩
    · rw [mach_last l h1, splitOn_none 10 l h1, hcons, hfin]
      simp [numbered]
    · rw [mach_line p r h1, splitOn_hit 10 p r h1, hcons, hfin, ih r (by simp at h; omega)]
theorem mach_lines (l : List UInt8) : mach l 1 [] [] false = linesOf l := mach_numbered _ l (Nat.le_refl _) 1
end Go.Proofs.YthcdibpajdnjaaaDoor
