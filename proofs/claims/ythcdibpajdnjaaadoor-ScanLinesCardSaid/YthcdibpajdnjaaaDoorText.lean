/- Plain: texts that are UTF-8, sign by sign; lines and words. -/
import Derived.Test.YthcdibpajdnjaaaDoorRunes
import Derived.Lib.MapLaws
import Derived.Lib.ValidLaws
import Derived.Lib.Split
import Derived.Lib.IndexBytes
import Derived.Laws.Cover4
namespace Go.Proofs.YthcdibpajdnjaaaDoor
open Go.Lib

/-- a sign that is not of ASCII: its bytes, and what they tell, whatever is behind them -/
structure Wide (e : List UInt8) (r : Nat) : Prop where
  high : ∀ b ∈ e, 128 ≤ b.toNat
  two : 2 ≤ e.length
  rune : 128 ≤ r
  le : r ≤ 1114111
  sur : r < 55296 ∨ 57344 ≤ r
  code : encodeRune (r : Int) = e
  tells : ∀ l, decodeL (e ++ l) = (r, e.length)

/-- a text that is UTF-8 -/
inductive Utf : List UInt8 → Prop where
  | nil : Utf []
  | asc {b : UInt8} {l : List UInt8} : b.toNat < 128 → Utf l → Utf (b :: l)
  | wide {e : List UInt8} {r : Nat} {l : List UInt8} : Wide e r → Utf l → Utf (e ++ l)

theorem decodeN_two (n b0 b1 b2 b3 : Nat) (c1 : b0 / 32 = 6) (c2 : 1 < n) (c3 : b1 / 64 = 2) (cv : 128 ≤ b0 % 32 * 64 + b1 % 64) : decodeN n b0 b1 b2 b3 = (b0 % 32 * 64 + b1 % 64, 2) := by
  unfold decodeN
  rw [if_neg (by omega), if_pos ⟨c1, c2, c3⟩, if_pos cv]
theorem decodeN_three (n b0 b1 b2 b3 : Nat) (c1 : b0 / 16 = 14) (c2 : 2 < n) (c3 : b1 / 64 = 2) (c4 : b2 / 64 = 2) (cv : 2048 ≤ b0 % 16 * 4096 + b1 % 64 * 64 + b2 % 64) (cs : b0 % 16 * 4096 + b1 % 64 * 64 + b2 % 64 < 55296 ∨ 57344 ≤ b0 % 16 * 4096 + b1 % 64 * 64 + b2 % 64) :
    decodeN n b0 b1 b2 b3 = (b0 % 16 * 4096 + b1 % 64 * 64 + b2 % 64, 3) := by
  unfold decodeN
  rw [if_neg (by omega), if_neg (by omega), if_pos ⟨c1, ⟨by omega, c3⟩, c2, c4⟩, if_pos ⟨cv, cs.imp id fun h => ⟨h, by omega⟩⟩]
theorem decodeN_four (n b0 b1 b2 b3 : Nat) (c1 : b0 / 8 = 30) (c2 : 3 < n) (c3 : b1 / 64 = 2) (c4 : b2 / 64 = 2) (c5 : b3 / 64 = 2) (cv : 65536 ≤ b0 % 8 * 262144 + b1 % 64 * 4096 + b2 % 64 * 64 + b3 % 64) (cw : b0 % 8 * 262144 + b1 % 64 * 4096 + b2 % 64 * 64 + b3 % 64 ≤ 1114111) :
    decodeN n b0 b1 b2 b3 = (b0 % 8 * 262144 + b1 % 64 * 4096 + b2 % 64 * 64 + b3 % 64, 4) := by
  unfold decodeN
  rw [if_neg (by omega), if_neg (by omega), if_neg (by omega), if_pos ⟨c1, ⟨by omega, c3⟩, ⟨by omega, c4⟩, c2, c5⟩, if_pos ⟨cv, .inr ⟨by omega, cw⟩⟩]

theorem getD_head (a : List UInt8) (l : List UInt8) (k : Nat) (h : k < a.length) : (a ++ l).getD k 0 = a.getD k 0 := by
  simp [List.getD, List.getElem?_append_left h]

/-- what is in front of a text that decodes there -/
theorem head_cases (l : List UInt8) (hne : l ≠ []) (hv : ¬ ((decodeL l).1 = 65533 ∧ (decodeL l).2 = 1)) :
    (∃ b t, l = b :: t ∧ b.toNat < 128) ∨ (∃ e r t, l = e ++ t ∧ Wide e r ∧ decodeL l = (r, e.length)) := by
  have hl : 0 < l.length := List.length_pos_iff.2 hne
  have hcode := encode_decode l hne hv
  have hle := decodeL_le l hne
  have e0 := decodeL_N l
  have k0 := (l.getD 0 0).toNat_lt
  have k1 := (l.getD 1 0).toNat_lt
  have k2 := (l.getD 2 0).toNat_lt
  have k3 := (l.getD 3 0).toNat_lt
  have hsplit : l = l.take (decodeL l).2 ++ l.drop (decodeL l).2 := (List.take_append_drop _ _).symm
  rcases decodeN_shape l.length (l.getD 0 0).toNat (l.getD 1 0).toNat (l.getD 2 0).toNat (l.getD 3 0).toNat with ⟨c, e⟩ | ⟨c1, c2, c3, cv, e⟩ | ⟨c1, c2, c3, c4, cv, cs, e⟩ | ⟨c1, c2, c3, c4, c5, cv, cw, e⟩ | e
  · left
    cases l with
    | nil => exact absurd rfl hne
    | cons b t => exact ⟨b, t, rfl, by simpa using c⟩
  · right
    rw [e] at e0
    rw [e0] at hcode hle hsplit
    have ht := takeB l c2
    refine ⟨l.take 2, _, l.drop 2, hsplit, ⟨?_, ?_, cv, by omega, by omega, hcode, ?_⟩, ?_⟩
    · rw [ht]; intro b hb; simp only [List.mem_cons, List.not_mem_nil, or_false] at hb; rcases hb with rfl | rfl <;> omega
    · rw [ht]; simp
    · intro m
      rw [decodeL_N, ht]
      rw [getD_head _ _ 0 (by simp), getD_head _ _ 1 (by simp)]
      simp only [List.getD_cons_zero, List.getD_cons_succ]
      rw [decodeN_two _ _ _ _ _ c1 (by simp) c3 cv]
      rfl
    · rw [e0, ht]; rfl
  · right
    rw [e] at e0
    rw [e0] at hcode hle hsplit
    have ht := takeC l c2
    refine ⟨l.take 3, _, l.drop 3, hsplit, ⟨?_, ?_, by omega, by omega, by omega, hcode, ?_⟩, ?_⟩
    · rw [ht]; intro b hb; simp only [List.mem_cons, List.not_mem_nil, or_false] at hb; rcases hb with rfl | rfl | rfl <;> omega
    · rw [ht]; simp
    · intro m
      rw [decodeL_N, ht]
      rw [getD_head _ _ 0 (by simp), getD_head _ _ 1 (by simp), getD_head _ _ 2 (by simp)]
      simp only [List.getD_cons_zero, List.getD_cons_succ]
      rw [decodeN_three _ _ _ _ _ c1 (by simp) c3 c4 cv cs]
      rfl
    · rw [e0, ht]; rfl
  · right
    rw [e] at e0
    rw [e0] at hcode hle hsplit
    have ht := takeD l c2
    refine ⟨l.take 4, _, l.drop 4, hsplit, ⟨?_, ?_, by omega, by omega, by omega, hcode, ?_⟩, ?_⟩
    · rw [ht]; intro b hb; simp only [List.mem_cons, List.not_mem_nil, or_false] at hb; rcases hb with rfl | rfl | rfl | rfl <;> omega
    · rw [ht]; simp
    · intro m
      rw [decodeL_N, ht]
      rw [getD_head _ _ 0 (by simp), getD_head _ _ 1 (by simp), getD_head _ _ 2 (by simp), getD_head _ _ 3 (by simp)]
      simp only [List.getD_cons_zero, List.getD_cons_succ]
      rw [decodeN_four _ _ _ _ _ c1 (by simp) c3 c4 c5 cv cw]
      rfl
    · rw [e0, ht]; rfl
  · rw [e] at e0
    rw [e0] at hv
    exact absurd ⟨rfl, rfl⟩ hv

theorem decodeL_asc (b : UInt8) (t : List UInt8) (h : b.toNat < 128) : decodeL (b :: t) = (b.toNat, 1) := by
  rw [decodeL_N]
  exact decodeN_ascii _ _ _ _ _ (by simpa using h)

theorem utf_of_valid : ∀ (n : Nat) (l : List UInt8), l.length ≤ n → validD l = true → Utf l
  | 0, l, h, _ => by
    have : l = [] := List.eq_nil_of_length_eq_zero (by omega)
    subst this
    exact .nil
  | n + 1, l, h, hv => by
    by_cases hne : l = []
    · subst hne; exact .nil
    rw [validD_step l hne] at hv
    by_cases hb : (decodeL l).1 = 65533 ∧ (decodeL l).2 = 1
    · rw [if_pos hb] at hv; cases hv
    · rw [if_neg hb] at hv
      rcases head_cases l hne hb with ⟨b, t, rfl, h1⟩ | ⟨e, r, t, rfl, h1, h2⟩
      · rw [decodeL_asc b t h1] at hv
        exact .asc h1 (utf_of_valid n t (by simp at h; omega) (by simpa using hv))
      · rw [h2] at hv
        have := h1.two
        exact .wide h1 (utf_of_valid n t (by simp at h; omega) (by simpa using hv))
theorem utf_valid {l : List UInt8} (h : Utf l) : validD l = true := by
  induction h with
  | nil => rfl
  | asc h1 _ ih => rw [validD_cons _ _ h1]; exact ih
  | @wide e r t h1 _ ih =>
    have h2 := h1.two
    have hne : e ++ t ≠ [] := fun h => by
      have h3 := congrArg List.length h
      rw [List.length_append, List.length_nil] at h3
      omega
    rw [validD_step _ hne, h1.tells t, if_neg (fun h => absurd h.2 (by show ¬ e.length = 1; omega))]
    simpa using ih

theorem encode_eq (r : Nat) (h : r ≤ 1114111) (hs : r < 55296 ∨ 57344 ≤ r) : (Utf8.encode (r : Int)).data.toList = encodeRune (r : Int) := by
  have hv : Utf8.valid (r : Int) = true := by
    unfold Utf8.valid
    rcases hs with hs | hs <;> simp <;> omega
  unfold Utf8.encode encodeRune
  simp only [hv, if_true, Int.toNat_natCast]
  split
  · rw [encodeRuneZ_one (by omega) (by omega)]; simp
  · split
    · rw [encodeRuneZ_two (by omega) (by omega)]
      simp only [List.map_cons, List.map_nil]
      congr 2 <;> omega
    · split
      · rw [encodeRuneZ_three (by omega)]
        simp only [List.map_cons, List.map_nil]
        congr 2 <;> omega
      · rw [encodeRuneZ_four (by omega) (by omega)]
        simp only [List.map_cons, List.map_nil]
        congr 2 <;> omega

/-- the pieces between the bytes c -/
def splitOn (c : UInt8) : List UInt8 → List (List UInt8)
  | [] => [[]]
  | b :: l => if b = c then [] :: splitOn c l else match splitOn c l with
    | [] => [[b]]
    | p :: ps => (b :: p) :: ps
/-- what is ahead of the first byte c -/
def before (c : UInt8) : List UInt8 → List UInt8
  | [] => []
  | b :: l => if b = c then [] else b :: before c l
/-- words, one begun -/
def wl : List UInt8 → List UInt8 → List (List UInt8)
  | word, [] => if word = [] then [] else [word]
  | word, b :: l => if b = 32 then (if word = [] then wl [] l else word :: wl [] l) else wl (word ++ [b]) l
/-- words of a text with a blank at its end -/
def wp : List UInt8 → List UInt8 → List (List UInt8)
  | _, [] => []
  | word, b :: l => if b = 32 then (if word = [] then wp [] l else word :: wp [] l) else wp (word ++ [b]) l
def wordsOf (l : List UInt8) : List (List UInt8) := wl [] (before 35 l)
/-- lines with their numbers, those without words left out -/
def numbered : Nat → List (List UInt8) → List (Nat × List (List UInt8))
  | _, [] => []
  | n, p :: ps => if wordsOf p = [] then numbered (n + 1) ps else (n, wordsOf p) :: numbered (n + 1) ps
def linesOf (l : List UInt8) : List (Nat × List (List UInt8)) := numbered 1 (splitOn 10 l)

theorem wp_eq (l : List UInt8) : ∀ word, wp word (l ++ [32]) = wl word l := by
  induction l with
  | nil => intro word; by_cases h : word = [] <;> simp [wp, wl, h]
  | cons b l ih =>
    intro word
    by_cases hb : b = 32
    · by_cases h : word = [] <;> simp [wp, wl, hb, h, ih]
    · simp [wp, wl, hb, ih]

/-- signs that are none: below 32, but for the line feed -/
def ctl (l : List UInt8) : Bool := l.any fun b => decide (b.toNat < 32) && !(b == 10)
/-- what is wrong with a text -/
def wrong (l : List UInt8) : Bool := !validD l || ctl l

theorem splitOn_ne (c : UInt8) (l : List UInt8) : splitOn c l ≠ [] := by
  induction l with
  | nil => simp [splitOn]
  | cons b l ih =>
    unfold splitOn
    split
    · simp
    · split <;> simp
theorem splitOn_none (c : UInt8) (l : List UInt8) (h : ∀ b ∈ l, b ≠ c) : splitOn c l = [l] := by
  induction l with
  | nil => rfl
  | cons b l ih =>
    have h1 := h b (by simp)
    unfold splitOn
    rw [if_neg h1, ih (fun x hx => h x (by simp [hx]))]
theorem splitOn_cons (c b : UInt8) (l p : List UInt8) (ps : List (List UInt8)) (h : b ≠ c) (hl : splitOn c l = p :: ps) : splitOn c (b :: l) = (b :: p) :: ps := by
  show (if b = c then [] :: splitOn c l else match splitOn c l with
    | [] => [[b]]
    | p :: ps => (b :: p) :: ps) = _
  rw [if_neg h, hl]
theorem splitOn_hit (c : UInt8) (p r : List UInt8) (h : ∀ b ∈ p, b ≠ c) : splitOn c (p ++ c :: r) = p :: splitOn c r := by
  induction p with
  | nil => simp [splitOn]
  | cons b l ih => exact splitOn_cons c b _ _ _ (h b (by simp)) (ih (fun x hx => h x (by simp [hx])))
theorem splitK_eq (c : UInt8) : ∀ (n : Nat) (l : List UInt8), l.length ≤ n → splitK [c] 0 (count l [c]) l = splitOn c l := by
  intro n
  induction n with
  | zero =>
    intro l h
    obtain rfl : l = [] := List.eq_nil_of_length_eq_zero (by omega)
    have : index [] [c] = -1 := rfl
    rw [count_miss this]
    rfl
  | succ n ih =>
    intro l h
    have hi := index_one l c
    by_cases hm : index l [c] = -1
    · rw [count_miss hm]
      have := indexByte_none (l := l) (c := c) (by rw [← hi]; exact hm)
      rw [splitOn_none c l (fun b hb e => by
        subst e
        obtain ⟨k, hk, e⟩ := List.getElem_of_mem hb
        exact this k (by rw [List.getElem?_eq_getElem hk, e]))]
      rfl
    · obtain ⟨i, hi2⟩ : ∃ i : Nat, index l [c] = i := ⟨(index l [c]).toNat, by have := index_ge l [c]; omega⟩
      have hs := indexByte_some (l := l) (c := c) (o := i) (by rw [← hi, hi2])
      rw [count_hit (by simp) hi2]
      have hil : i < l.length := by
        rcases Nat.lt_or_ge i l.length with h1 | h1
        · exact h1
        · rw [List.getElem?_eq_none h1] at hs; cases hs.1
      have hl : l = l.take i ++ c :: l.drop (i + 1) := by
        have e1 := List.take_append_drop i l
        have e2 := List.drop_eq_getElem_cons hil
        have e3 : l[i] = c := by have := hs.1; rw [List.getElem?_eq_getElem hil] at this; exact Option.some.inj this
        rw [e3] at e2
        rw [← e2, e1]
      have hsp := splitOn_hit c (l.take i) (l.drop (i + 1)) (fun b hb e => by
        subst e
        obtain ⟨k, hk, e⟩ := List.getElem_of_mem hb
        rw [List.length_take] at hk
        rw [List.getElem_take] at e
        exact hs.2 k (by omega) ((List.getElem?_eq_getElem (by omega)).trans (congrArg some e)))
      rw [← hl] at hsp
      rw [hsp, Nat.add_comm 1]
      have hmb : ¬ (index l [c] == -1) = true := fun e => hm (beq_iff_eq.1 e)
      have e : (index l [c]).toNat = i := by omega
      unfold splitK
      rw [if_neg hmb, e]
      simp only [List.length_cons, List.length_nil, Nat.add_zero, Nat.zero_add]
      rw [ih _ (by rw [List.length_drop]; omega)]
theorem before_take (c : UInt8) (p r : List UInt8) (h : ∀ b ∈ p, b ≠ c) : before c (p ++ c :: r) = p := by
  induction p with
  | nil => simp [before]
  | cons b l ih =>
    have h1 := h b (by simp)
    rw [List.cons_append]
    unfold before
    rw [if_neg h1, ih (fun x hx => h x (by simp [hx]))]
theorem before_none (c : UInt8) (l : List UInt8) (h : ∀ b ∈ l, b ≠ c) : before c l = l := by
  induction l with
  | nil => rfl
  | cons b l ih =>
    have h1 := h b (by simp)
    unfold before
    rw [if_neg h1, ih (fun x hx => h x (by simp [hx]))]
/-- Cut at a byte -/
theorem cut_eq (c : UInt8) (l : List UInt8) : (∃ r, l = before c l ++ c :: r ∧ cut l [c] = (before c l, r, true) ∧ ∀ b ∈ before c l, b ≠ c) ∨ ((∀ b ∈ l, b ≠ c) ∧ before c l = l ∧ cut l [c] = (l, [], false)) := by
  have hi := index_one l c
  by_cases hm : index l [c] = -1
  · right
    have := indexByte_none (l := l) (c := c) (by rw [← hi]; exact hm)
    have hn : ∀ b ∈ l, b ≠ c := fun b hb e => by
      subst e
      obtain ⟨k, hk, e⟩ := List.getElem_of_mem hb
      exact this k (by rw [List.getElem?_eq_getElem hk, e])
    exact ⟨hn, before_none c l hn, by unfold cut; rw [if_neg (by omega)]⟩
  · left
    obtain ⟨i, hi2⟩ : ∃ i : Nat, index l [c] = i := ⟨(index l [c]).toNat, by have := index_ge l [c]; omega⟩
    have hs := indexByte_some (l := l) (c := c) (o := i) (by rw [← hi, hi2])
    have hil : i < l.length := by
      rcases Nat.lt_or_ge i l.length with h1 | h1
      · exact h1
      · rw [List.getElem?_eq_none h1] at hs; cases hs.1
    have hl : l = l.take i ++ c :: l.drop (i + 1) := by
      have e1 := List.take_append_drop i l
      have e2 := List.drop_eq_getElem_cons hil
      have e3 : l[i] = c := by have := hs.1; rw [List.getElem?_eq_getElem hil] at this; exact Option.some.inj this
      rw [e3] at e2
      rw [← e2, e1]
    have hn : ∀ b ∈ l.take i, b ≠ c := fun b hb e => by
      subst e
      obtain ⟨k, hk, e⟩ := List.getElem_of_mem hb
      rw [List.length_take] at hk
      rw [List.getElem_take] at e
      exact hs.2 k (by omega) ((List.getElem?_eq_getElem (by omega)).trans (congrArg some e))
    have hb := before_take c (l.take i) (l.drop (i + 1)) hn
    rw [← hl] at hb
    refine ⟨l.drop (i + 1), by rw [hb]; exact hl, ?_, by rw [hb]; exact hn⟩
    unfold cut
    rw [if_pos (by omega), hb, hi2]
    rfl

theorem utf_before (c : UInt8) (hc : c.toNat < 128) {l : List UInt8} (h : Utf l) : Utf (before c l) := by
  induction h with
  | nil => exact .nil
  | @asc b l h1 _ ih =>
    unfold before
    split
    · exact .nil
    · exact .asc h1 ih
  | @wide e r l h1 _ ih =>
    have : before c (e ++ l) = e ++ before c l := by
      have hh := h1.high
      clear h1
      induction e with
      | nil => rfl
      | cons b e ih2 =>
        have := hh b (by simp)
        rw [List.cons_append]
        show (if b = c then [] else b :: before c (e ++ l)) = _
        rw [if_neg (by rintro rfl; omega), ih2 (fun x hx => hh x (by simp [hx]))]
        rfl
    rw [this]
    exact .wide h1 ih
theorem utf_split (c : UInt8) (hc : c.toNat < 128) {l : List UInt8} (h : Utf l) : ∀ p ∈ splitOn c l, Utf p := by
  induction h with
  | nil => intro p hp; simp [splitOn] at hp; subst hp; exact .nil
  | @asc b l h1 _ ih =>
    intro p hp
    unfold splitOn at hp
    split at hp
    · rcases List.mem_cons.1 hp with rfl | hp
      · exact .nil
      · exact ih p hp
    · split at hp
      · simp at hp; subst hp; exact .asc h1 .nil
      · rename_i q ps heq
        rcases List.mem_cons.1 hp with rfl | hp
        · exact .asc h1 (ih q (by rw [heq]; simp))
        · exact ih p (by rw [heq]; simp [hp])
  | @wide e r l h1 _ ih =>
    have : ∃ q ps, splitOn c l = q :: ps ∧ splitOn c (e ++ l) = (e ++ q) :: ps := by
      have hh := h1.high
      clear h1 ih
      induction e with
      | nil =>
        cases hs : splitOn c l with
        | nil => exact absurd hs (splitOn_ne c l)
        | cons q ps => exact ⟨q, ps, rfl, hs⟩
      | cons b e ih2 =>
        have := hh b (by simp)
        obtain ⟨q, ps, h2, h3⟩ := ih2 (fun x hx => hh x (by simp [hx]))
        refine ⟨q, ps, h2, ?_⟩
        rw [List.cons_append]
        unfold splitOn
        rw [if_neg (by rintro rfl; omega), h3]
        rfl
    obtain ⟨q, ps, h2, h3⟩ := this
    intro p hp
    rw [h3] at hp
    rcases List.mem_cons.1 hp with rfl | hp
    · exact .wide h1 (ih q (by rw [h2]; simp))
    · exact ih p (by rw [h2]; simp [hp])
theorem ctl_split (c : UInt8) (l : List UInt8) (h : ctl l = false) : ∀ p ∈ splitOn c l, ctl p = false := by
  induction l with
  | nil => intro p hp; simp [splitOn] at hp; subst hp; rfl
  | cons b l ih =>
    simp only [ctl, List.any_cons, Bool.or_eq_false_iff] at h
    intro p hp
    unfold splitOn at hp
    split at hp
    · rcases List.mem_cons.1 hp with rfl | hp
      · rfl
      · exact ih h.2 p hp
    · split at hp
      · simp only [List.mem_singleton] at hp; subst hp; simp [ctl, h.1]
      · rename_i q ps heq
        rcases List.mem_cons.1 hp with rfl | hp
        · have := ih h.2 q (by rw [heq]; simp)
          simp only [ctl] at this
          simp only [ctl, List.any_cons, this, h.1, Bool.or_false]
        · exact ih h.2 p (by rw [heq]; simp [hp])
theorem wp_wide {e : List UInt8} (hh : ∀ b ∈ e, 128 ≤ b.toNat) (l : List UInt8) : ∀ word, wp word (e ++ l) = wp (word ++ e) l := by
  induction e with
  | nil => intro word; simp
  | cons b e ih =>
    intro word
    have := hh b (by simp)
    rw [List.cons_append]
    show (if b = 32 then _ else wp (word ++ [b]) (e ++ l)) = _
    rw [if_neg (by rintro rfl; simp at this), ih (fun x hx => hh x (by simp [hx]))]
    simp
theorem wp_len (l : List UInt8) : ∀ word, (wp word l).length ≤ l.length := by
  induction l with
  | nil => intro word; simp [wp]
  | cons b l ih =>
    intro word
    unfold wp
    split
    · split
      · have := ih []; simp; omega
      · have := ih []; simp; omega
    · have := ih (word ++ [b]); simp; omega
theorem before_len (c : UInt8) (l : List UInt8) : (before c l).length ≤ l.length := by
  induction l with
  | nil => simp [before]
  | cons b l ih => unfold before; split <;> simp; omega
theorem splitOn_len (c : UInt8) (l : List UInt8) : (splitOn c l).length ≤ l.length + 1 ∧ ∀ p ∈ splitOn c l, p.length ≤ l.length := by
  induction l with
  | nil => simp [splitOn]
  | cons b l ih =>
    obtain ⟨h1, h2⟩ := ih
    unfold splitOn
    split
    · refine ⟨by simp; omega, fun p hp => ?_⟩
      rcases List.mem_cons.1 hp with rfl | hp
      · simp
      · have := h2 p hp; simp; omega
    · split
      · rename_i heq; exact absurd heq (splitOn_ne c l)
      · rename_i q ps heq
        rw [heq] at h1 h2
        refine ⟨by simp at h1 ⊢; omega, fun p hp => ?_⟩
        rcases List.mem_cons.1 hp with rfl | hp
        · have := h2 q (by simp); simp; omega
        · have := h2 p (by simp [hp]); simp; omega
end Go.Proofs.YthcdibpajdnjaaaDoor
