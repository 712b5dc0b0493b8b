/- Plain: numbers, as digits. -/
import Derived.Lib.ParseIntB
import Derived.Lib.ParseIntBCases
import Derived.Lib.ItoaMem
namespace Go.Proofs.YthcdibpajdnjaaaDoor
open Go.Lib

/-- the number that digits tell, behind one -/
def step10 (a : Nat) (c : UInt8) : Nat := a * 10 + (c.toNat - 48)
def val (a : Nat) (l : List UInt8) : Nat := l.foldl step10 a
theorem val_nil (a : Nat) : val a [] = a := by simp only [val, List.foldl_nil]
theorem val_cons (a : Nat) (c : UInt8) (l : List UInt8) : val a (c :: l) = val (a * 10 + (c.toNat - 48)) l := by simp only [val, List.foldl_cons, step10]
def isDig (c : UInt8) : Bool := decide (48 ≤ c.toNat) && decide (c.toNat ≤ 57)
def digs (l : List UInt8) : Bool := l.all isDig
/-- what digits tell, behind a sign or none -/
def numB (neg : Bool) (d : List UInt8) : Int × Bool :=
  if d = [] ∨ 19 < d.length ∨ (d.head? = some 48 ∧ (1 < d.length ∨ neg = true)) then (0, false)
  else if digs d = false then (0, false)
  else if neg = true then (if val 0 d ≤ 9223372036854775808 then (-(val 0 d : Int), true) else (0, false))
  else (if val 0 d < 9223372036854775808 then ((val 0 d : Int), true) else (0, false))
def numOf (l : List UInt8) : Int × Bool :=
  match l with
  | [] => (0, false)
  | c :: r => if c = 45 then numB true r else numB false (c :: r)

theorem val_snoc (l : List UInt8) (c : UInt8) (a : Nat) : val a (l ++ [c]) = val a l * 10 + (c.toNat - 48) := by
  simp only [val, List.foldl_append, List.foldl_cons, List.foldl_nil, step10]
theorem isDig_iff {c : UInt8} : isDig c = true ↔ 48 ≤ c.toNat ∧ c.toNat ≤ 57 := by simp [isDig]
theorem digs_cons {c : UInt8} {l : List UInt8} : digs (c :: l) = true ↔ (48 ≤ c.toNat ∧ c.toNat ≤ 57) ∧ digs l = true := by
  simp [digs, isDig_iff]
theorem digs_snoc {c : UInt8} {l : List UInt8} : digs (l ++ [c]) = true ↔ digs l = true ∧ (48 ≤ c.toNat ∧ c.toNat ≤ 57) := by
  simp [digs, isDig_iff]
def p10 : Nat → Nat
  | 0 => 1
  | n + 1 => 10 * p10 n
theorem p10_succ (n : Nat) : p10 (n + 1) = 10 * p10 n := rfl
theorem val_lt (l : List UInt8) : ∀ a : Nat, digs l = true → val a l + 1 ≤ (a + 1) * p10 l.length := by
  induction l with
  | nil => intro a _; rw [val_nil]; show a + 1 ≤ (a + 1) * 1; omega
  | cons c l ih =>
    intro a hd
    obtain ⟨hc, hl⟩ := digs_cons.1 hd
    have h1 := ih (a * 10 + (c.toNat - 48)) hl
    rw [val_cons, List.length_cons, p10_succ]
    have h2 : (a * 10 + (c.toNat - 48) + 1) * p10 l.length ≤ (a + 1) * (10 * p10 l.length) := by
      rw [← Nat.mul_assoc]
      exact Nat.mul_le_mul_right _ (by omega)
    omega
theorem p10_mono {m n : Nat} (h : m ≤ n) : p10 m ≤ p10 n := by
  induction h with
  | refl => exact Nat.le_refl _
  | @step k _ ih => rw [p10_succ]; omega
theorem val_18 {l : List UInt8} (hd : digs l = true) (hl : l.length ≤ 18) : val 0 l < 1000000000000000000 := by
  have h1 := val_lt l 0 hd
  have h2 := p10_mono hl
  have h3 : p10 18 = 1000000000000000000 := by decide
  omega
theorem val_19 {l : List UInt8} (hd : digs l = true) (hl : l.length ≤ 19) : val 0 l < 10000000000000000000 := by
  have h1 := val_lt l 0 hd
  have h2 := p10_mono hl
  have h3 : p10 19 = 10000000000000000000 := by decide
  omega
theorem head_app {p q : List UInt8} (h : p ≠ []) : (p ++ q).head? = p.head? := by
  cases p with
  | nil => exact absurd rfl h
  | cons a p => rfl
theorem pow18 {k : Nat} (h : k ≤ 18) : 10 ^ k ≤ 1000000000000000000 := Nat.le_trans (Nat.pow_le_pow_right (by decide) h) (by decide)
theorem parseM_step {M a : Nat} {c : UInt8} {l : List UInt8} (hc : 48 ≤ c.toNat ∧ c.toNat ≤ 57) (h1 : ¬ 1844674407370955162 ≤ a) (h2 : ¬ M < a * 10 + (c.toNat - 48)) : parseUintM M a (c :: l) = parseUintM M (a * 10 + (c.toNat - 48)) l := by
  show (if 48 ≤ c.toNat ∧ c.toNat ≤ 57 then _ else _) = _
  rw [if_pos hc, if_neg h1, if_neg h2]
theorem parseM_ok (M : Nat) (hM : 9999999999999999999 ≤ M) (l : List UInt8) : ∀ (a k : Nat), a < 10 ^ k → l.length + k ≤ 19 → digs l = true → parseUintM M a l = .ok (val a l) := by
  induction l with
  | nil => intro a k _ _ _; rw [val_nil]; rfl
  | cons c l ih =>
    intro a k h hk hd
    obtain ⟨hc, hl⟩ := digs_cons.1 hd
    have hk18 : k ≤ 18 := by simp at hk; omega
    have hx : a * 10 + (c.toNat - 48) < 10 ^ (k + 1) := by rw [Nat.pow_succ]; omega
    have hi := ih (a * 10 + (c.toNat - 48)) (k + 1) hx (by simp at hk; omega) hl
    have h18 : a < 1000000000000000000 := Nat.lt_of_lt_of_le h (pow18 hk18)
    clear hx ih h
    rw [parseM_step hc (by omega) (by omega), val_cons]
    exact hi
theorem dec_small {u : Nat} (h : u < 10) : decDigits u = [UInt8.ofNat (48 + u)] := decDigits_one h
theorem dec_big {u : Nat} (h : ¬ u < 10) : decDigits u = decDigits (u / 10) ++ [UInt8.ofNat (48 + u % 10)] := by
  rw [decDigits, dif_neg h]
theorem ofNat_dig {k : Nat} (h : k < 10) : (UInt8.ofNat (48 + k)).toNat = 48 + k := by
  simp
  omega
theorem dec_digs (u : Nat) : digs (decDigits u) = true := by
  induction u using Nat.strongRecOn with
  | _ u ih =>
    by_cases h : u < 10
    · rw [dec_small h]
      exact digs_cons.2 ⟨by rw [ofNat_dig h]; omega, rfl⟩
    · rw [dec_big h]
      exact digs_snoc.2 ⟨ih _ (by omega), by rw [ofNat_dig (by omega)]; omega⟩
theorem val_dec (u : Nat) : val 0 (decDigits u) = u := by
  induction u using Nat.strongRecOn with
  | _ u ih =>
    by_cases h : u < 10
    · rw [dec_small h]
      rw [val_cons, val_nil, ofNat_dig h]
      omega
    · rw [dec_big h, val_snoc, ih _ (by omega), ofNat_dig (by omega)]
      omega
theorem dec_ne (u : Nat) : decDigits u ≠ [] := by
  by_cases h : u < 10
  · rw [dec_small h]; simp
  · rw [dec_big h]; simp
theorem dec_head (u : Nat) (h1 : 1 ≤ u) : (decDigits u).head? ≠ some 48 := by
  induction u using Nat.strongRecOn with
  | _ u ih =>
    by_cases h : u < 10
    · rw [dec_small h]
      intro e
      have e2 : UInt8.ofNat (48 + u) = 48 := by simpa using e
      have := congrArg UInt8.toNat e2
      rw [ofNat_dig h] at this
      have : (48 : UInt8).toNat = 48 := rfl
      omega
    · rw [dec_big h, head_app (dec_ne _)]
      exact ih _ (by omega) (by omega)
theorem dec_len (k : Nat) : ∀ u, u < 10 ^ (k + 1) → (decDigits u).length ≤ k + 1 := by
  induction k with
  | zero => intro u h; rw [dec_small (by simpa using h)]; simp
  | succ k ih =>
    intro u h
    by_cases h1 : u < 10
    · rw [dec_small h1]; simp
    · rw [dec_big h1]
      have := ih (u / 10) (by rw [Nat.pow_succ] at h; omega)
      simp
      omega
theorem dec_val : ∀ (n : Nat) (d : List UInt8), d.length = n → d ≠ [] → digs d = true → (d.head? = some 48 → d.length = 1) → decDigits (val 0 d) = d := by
  intro n
  induction n with
  | zero => intro d h h1; exact absurd (List.eq_nil_of_length_eq_zero h) h1
  | succ n ih =>
    intro d hn hne hd h0
    obtain ⟨p, c, rfl⟩ : ∃ p c, d = p ++ [c] := ⟨d.dropLast, d.getLast hne, (List.dropLast_concat_getLast hne).symm⟩
    obtain ⟨hp, hc⟩ := digs_snoc.1 hd
    have hcc : ∀ k, k = c.toNat - 48 → UInt8.ofNat (48 + k) = c := fun k hk => by
      subst hk
      have : 48 + (c.toNat - 48) = c.toNat := by omega
      rw [this]
      simp
    by_cases hpe : p = []
    · subst hpe
      rw [List.nil_append, val_cons, val_nil, dec_small (by omega), hcc _ (by omega)]
    · have hhead : p.head? ≠ some 48 := fun h => by
        have := h0 (by rw [head_app hpe]; exact h)
        have h2 := List.length_pos_iff.2 hpe
        simp only [List.length_append, List.length_cons, List.length_nil] at this
        omega
      have hi := ih p (by simpa using hn) hpe hp (fun h => absurd h hhead)
      have hv : 1 ≤ val 0 p := by
        rcases Nat.eq_zero_or_pos (val 0 p) with h | h
        · rw [h, dec_small (by decide)] at hi
          rw [← hi] at hhead
          exact absurd rfl hhead
        · exact h
      rw [val_snoc, dec_big (by omega)]
      have e1 : (val 0 p * 10 + (c.toNat - 48)) / 10 = val 0 p := by omega
      rw [e1, hi, hcc _ (by omega)]

theorem dec_cons (u : Nat) : ∃ c r, decDigits u = c :: r ∧ 48 ≤ c.toNat ∧ c.toNat ≤ 57 := by
  cases h : decDigits u with
  | nil => exact absurd h (dec_ne u)
  | cons c r =>
    have := dec_digs u
    rw [h] at this
    exact ⟨c, r, rfl, (digs_cons.1 this).1⟩
theorem len19 {u : Nat} (h : u ≤ 9223372036854775808) : (decDigits u).length ≤ 19 := dec_len 18 u (by
  have : (10 : Nat) ^ (18 + 1) = 10000000000000000000 := by decide
  omega)
theorem parse_dec {u : Nat} (h : u ≤ 9223372036854775808) : parseUintB 64 (decDigits u) = .ok u := by
  unfold parseUintB
  rw [if_neg (dec_ne u), parseM_ok _ (by decide) _ 0 0 Nat.zero_lt_one (by have := len19 h; omega) (dec_digs u), val_dec]
theorem p63 : (2 : Nat) ^ (64 - 1) = 9223372036854775808 := by decide

/-- a number's digits are parsed to it, and tell it -/
theorem itoa_parse (n : Int) (h0 : -9223372036854775808 ≤ n) (h1 : n ≤ 9223372036854775807) : parseIntB 64 (itoa n) = .ok n ∧ numOf (itoa n) = (n, true) := by
  by_cases hn : n < 0
  · obtain ⟨u, rfl⟩ : ∃ u : Nat, n = -(u : Int) := ⟨n.natAbs, by omega⟩
    rw [itoa_neg u (by omega)]
    have hu : u ≤ 9223372036854775808 := by omega
    constructor
    · rw [parseIntB_minus, parse_dec hu]
      unfold signedC
      rw [p63]
      simp
      omega
    · show numB true (decDigits u) = _
      unfold numB
      have hl := len19 hu
      have hh := dec_head u (by omega)
      rw [if_neg (by rintro (h | h | h); exact dec_ne u h; omega; exact hh h.1), if_neg (by rw [dec_digs]; simp), if_pos rfl, val_dec, if_pos hu]
  · obtain ⟨u, rfl⟩ : ∃ u : Nat, n = (u : Int) := ⟨n.toNat, by omega⟩
    rw [itoa_nonneg]
    have hu : u ≤ 9223372036854775808 := by omega
    obtain ⟨c, r, e, hc, hc2⟩ := dec_cons u
    constructor
    · rw [e, parseIntB_plain 64 c r (by omega) (by omega), ← e, parse_dec hu]
      unfold signlessC
      rw [p63]
      simp
      omega
    · rw [e]
      show (if c = 45 then _ else numB false (c :: r)) = _
      rw [if_neg (by rintro rfl; simp at hc), ← e]
      unfold numB
      have hl := len19 hu
      rw [if_neg (by
        rintro (h | h | ⟨h, h2⟩)
        · exact dec_ne u h
        · omega
        · rcases Nat.eq_zero_or_pos u with h3 | h3
          · subst h3; rw [dec_small (by decide)] at h2; simp at h2
          · exact dec_head u h3 h), if_neg (by rw [dec_digs]; simp), if_neg (by simp), val_dec, if_pos (by omega)]
theorem numB_true {neg : Bool} {d : List UInt8} {n : Int} (h : numB neg d = (n, true)) : decDigits (val 0 d) = d ∧ (neg = true → val 0 d ≤ 9223372036854775808 ∧ n = -(val 0 d : Int) ∧ 1 ≤ val 0 d) ∧ (neg = false → val 0 d < 9223372036854775808 ∧ n = (val 0 d : Int)) := by
  unfold numB at h
  split at h
  · cases h
  rename_i h1
  split at h
  · cases h
  rename_i h2
  simp only [not_or, not_and, Bool.not_eq_false] at h1 h2
  have hd : decDigits (val 0 d) = d := dec_val _ d rfl h1.1 h2 (fun e => by
    have := (h1.2.2 e).1
    have := List.length_pos_iff.2 h1.1
    omega)
  refine ⟨hd, ?_, ?_⟩
  · rintro rfl
    rw [if_pos rfl] at h
    split at h
    · rename_i h3
      simp only [Prod.mk.injEq, and_true] at h
      refine ⟨h3, h.symm, ?_⟩
      rcases Nat.eq_zero_or_pos (val 0 d) with h4 | h4
      · rw [h4, dec_small (by decide)] at hd
        exact absurd rfl (h1.2.2 (by rw [← hd]; rfl)).2
      · exact h4
    · cases h
  · rintro rfl
    rw [if_neg (by simp)] at h
    split at h
    · rename_i h3
      simp only [Prod.mk.injEq, and_true] at h
      exact ⟨h3, h.symm⟩
    · cases h
/-- what digits tell is spelled so -/
theorem num_itoa {l : List UInt8} {n : Int} (h : numOf l = (n, true)) : itoa n = l ∧ -9223372036854775808 ≤ n ∧ n ≤ 9223372036854775807 := by
  unfold numOf at h
  cases l with
  | nil => cases h
  | cons c r =>
    simp only at h
    split at h
    · rename_i hc
      subst hc
      obtain ⟨h1, h2, _⟩ := numB_true h
      obtain ⟨h3, rfl, h4⟩ := h2 rfl
      rw [itoa_neg _ h4, h1]
      exact ⟨rfl, by omega, by omega⟩
    · obtain ⟨h1, _, h2⟩ := numB_true h
      obtain ⟨h3, rfl⟩ := h2 rfl
      rw [itoa_nonneg, h1]
      exact ⟨rfl, by omega, by omega⟩
theorem numB_false {neg : Bool} {d : List UInt8} (h : (numB neg d).2 = false) : numB neg d = (0, false) := by
  cases hx : numB neg d with
  | mk n ok =>
    rw [hx] at h
    simp only at h
    subst h
    unfold numB at hx
    repeat' split at hx
    all_goals first
      | (cases hx; rfl)
      | (simp at hx)
theorem numOf_false {l : List UInt8} (h : (numOf l).2 = false) : numOf l = (0, false) := by
  unfold numOf at *
  cases l with
  | nil => rfl
  | cons c r =>
    simp only at h ⊢
    split at h
    · rename_i hc; rw [if_pos hc]; exact numB_false h
    · rename_i hc; rw [if_neg hc]; exact numB_false h
/-- parsed, and spelled so: the document's answer -/
theorem num_of_parse {l : List UInt8} {v : Int} (h : parseIntB 64 l = .ok v) (h0 : -9223372036854775808 ≤ v) (h1 : v ≤ 9223372036854775807) : numOf l = if itoa v = l then (v, true) else (0, false) := by
  by_cases e : itoa v = l
  · rw [if_pos e, ← e]
    exact (itoa_parse v h0 h1).2
  · rw [if_neg e]
    cases hb : (numOf l).2 with
    | false => exact numOf_false hb
    | true =>
      exfalso
      obtain ⟨e1, e2, e3⟩ := num_itoa (l := l) (n := (numOf l).1) (by rw [← hb])
      have := (itoa_parse _ e2 e3).1
      rw [e1, h] at this
      have := NumEnd.ok.inj this
      exact e (by rw [this]; exact e1)
theorem num_of_fail {l : List UInt8} (h : ∀ v, parseIntB 64 l ≠ .ok v) : numOf l = (0, false) := by
  cases hb : (numOf l).2 with
  | false => exact numOf_false hb
  | true =>
    exfalso
    obtain ⟨e1, e2, e3⟩ := num_itoa (l := l) (n := (numOf l).1) (by rw [← hb])
    have := (itoa_parse _ e2 e3).1
    rw [e1] at this
    exact h _ this
end Go.Proofs.YthcdibpajdnjaaaDoor
