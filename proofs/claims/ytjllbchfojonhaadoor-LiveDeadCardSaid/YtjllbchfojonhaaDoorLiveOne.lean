/- Sets of variables as words of 64 bits: the plain laws. ; The numbers of a set of words, rising: the plain law. ; The plain law of what is live: ways; the end of a search; the end of a flow. ; What is live ahead of a place of a block, of what is live behind it: the plain law on sets of words. ; The plain law of the flow: rounds over the blocks, until nothing is turned any more. ; The plain law of a search from a block on: what is marked, and what waits. ; Ways with a mark (plain): what the going through to a standstill comes to; the search depth first. ; The search depth first (plain). -/
import Derived.Laws.Bits64b
import Derived.WalkSmall
import Derived.Lib.TrailingZeros
import Derived.Test.YtjllbchfojonhaaDoorB1
import Derived.WalkKit
namespace Go.Proofs.YtjllbchfojonhaaDoor
set_option linter.unusedVariables false

theorem andNot_u64 (a b : Nat) (ha : a < 18446744073709551616) (hb : b < 18446744073709551616) :
  ∃ c : Nat, bits .andNot .u64 (a : Int) (b : Int) = (c : Int) ∧ c < 18446744073709551616 ∧ ∀ i, i < 64 → c.testBit i = (a.testBit i && !b.testBit i) := by
 have h1 : (BitVec.ofInt 64 (a : Int)) = BitVec.ofNat 64 a := by rw [BitVec.ofInt_natCast]
 have h2 : (BitVec.ofInt 64 (b : Int)) = BitVec.ofNat 64 b := by rw [BitVec.ofInt_natCast]
 refine ⟨(BitVec.ofNat 64 a &&& ~~~ BitVec.ofNat 64 b).toNat, ?_, (BitVec.ofNat 64 a &&& ~~~ BitVec.ofNat 64 b).isLt, fun i hi => ?_⟩
 ·show IntKind.u64.wrap ((BitVec.ofInt 64 (a : Int) &&& ~~~ BitVec.ofInt 64 (b : Int)).toNat : Int) = _
  rw [h1, h2, IntKind.wrap_u64]
  have := (BitVec.ofNat 64 a &&& ~~~ BitVec.ofNat 64 b).isLt
  omega
 ·rw [BitVec.testBit_toNat, BitVec.getLsbD_and, BitVec.getLsbD_not, BitVec.getLsbD_ofNat, BitVec.getLsbD_ofNat]
  simp [hi]
/-- a set's words; is v among it -/
def bitB (ws : List Nat) (v : Nat) : Bool := ws[v / 64]!.testBit (v % 64)
def WordsOK (ws : List Nat) : Prop := ∀ x ∈ ws, x < 18446744073709551616
theorem WordsOK.at {ws : List Nat} (h : WordsOK ws) (k : Nat) : ws[k]! < 18446744073709551616 := by
 by_cases hk : k < ws.length
 ·rw [getElem!_pos ws k hk]; exact h _ (List.getElem_mem hk)
 ·rw [getElem!_neg ws k hk]; decide
theorem WordsOK.set {ws : List Nat} (h : WordsOK ws) (k : Nat) {c : Nat} (hc : c < 18446744073709551616) : WordsOK (ws.set k c) := by
 intro x hx
 rcases List.mem_or_eq_of_mem_set hx with h1 | rfl
 ·exact h x h1
 ·exact hc
theorem set_bang {ws : List Nat} (k j c : Nat) (hk : k < ws.length) : (ws.set k c)[j]! = if j = k then c else ws[j]! := by
 by_cases hj : j < ws.length
 ·rw [getElem!_pos _ j (by simpa using hj), getElem!_pos ws j hj, List.getElem_set]
  by_cases e : k = j
  ·subst e; simp
  ·rw [if_neg e, if_neg (fun h => e h.symm)]
 ·rw [getElem!_neg _ j (by simpa using hj), getElem!_neg ws j hj, if_neg (by omega)]
theorem one_bit (m i : Nat) : (2 ^ m).testBit i = decide (m = i) := Nat.testBit_two_pow
/-- one bit set -/
theorem bit_add {ws : List Nat} (v u : Nat) (hv : v / 64 < ws.length) : bitB (ws.set (v / 64) (ws[v / 64]! ||| 2 ^ (v % 64))) u = (bitB ws u || decide (u = v)) := by
 unfold bitB
 rw [set_bang _ _ _ hv]
 by_cases e : u / 64 = v / 64
 ·rw [if_pos e, Nat.testBit_or, one_bit, e]
  congr 1
  rw [decide_eq_decide]
  omega
 ·rw [if_neg e, show decide (u = v) = false from decide_eq_false (fun h => e (by rw [h])), Bool.or_false]
/-- one bit taken away -/
theorem bit_drop {ws : List Nat} (v u c : Nat) (hv : v / 64 < ws.length) (hc : ∀ i, i < 64 → c.testBit i = (ws[v / 64]!.testBit i && !(2 ^ (v % 64)).testBit i)) : bitB (ws.set (v / 64) c) u = (bitB ws u && !decide (u = v)) := by
 unfold bitB
 rw [set_bang _ _ _ hv]
 by_cases e : u / 64 = v / 64
 ·rw [if_pos e, hc _ (Nat.mod_lt _ (by decide)), one_bit, e]
  congr 2
  rw [decide_eq_decide]
  omega
 ·rw [if_neg e, show decide (u = v) = false from decide_eq_false (fun h => e (by rw [h])), Bool.not_false, Bool.and_true]
/-- two sets of as many words with the same bits are the same -/
theorem bits_ext {ws us : List Nat} (hl : ws.length = us.length) (hw : WordsOK ws) (hu : WordsOK us) (h : ∀ v, v < 64 * ws.length → bitB ws v = bitB us v) : ws = us := by
 refine List.ext_getElem hl fun k h1 h2 => ?_
 refine Nat.eq_of_testBit_eq fun i => ?_
 by_cases hi : i < 64
 ·have := h (k * 64 + i) (by omega)
  unfold bitB at this
  rw [show (k * 64 + i) / 64 = k by omega, show (k * 64 + i) % 64 = i by omega, getElem!_pos ws k h1, getElem!_pos us k h2] at this
  exact this
 ·have a1 : ws[k] < 2 ^ i := Nat.lt_of_lt_of_le (hw _ (List.getElem_mem h1)) (by rw [show 18446744073709551616 = 2 ^ 64 from rfl]; exact Nat.pow_le_pow_right (by decide) (by omega))
  have a2 : us[k] < 2 ^ i := Nat.lt_of_lt_of_le (hu _ (List.getElem_mem h2)) (by rw [show 18446744073709551616 = 2 ^ 64 from rfl]; exact Nat.pow_le_pow_right (by decide) (by omega))
  rw [Nat.testBit_lt_two_pow a1, Nat.testBit_lt_two_pow a2]
/-- how many bits of a set there are, up to n -/
def bcnt (ws : List Nat) : Nat → Nat
 | 0 => 0
 | k + 1 => bcnt ws k + if bitB ws k = true then 1 else 0
theorem bcnt_le (ws us : List Nat) (n : Nat) (h : ∀ v, v < n → bitB ws v = true → bitB us v = true) : bcnt ws n ≤ bcnt us n := by
 induction n with
 | zero => exact Nat.le_refl _
 | succ n ih =>
  have h1 := ih (fun v hv => h v (by omega))
  have h2 := h n (by omega)
  unfold bcnt
  cases e : bitB ws n with
  | false => simp; omega
  | true => rw [h2 e]; simp; omega
theorem bcnt_lt (ws us : List Nat) (n : Nat) (h : ∀ v, v < n → bitB ws v = true → bitB us v = true) (v : Nat) (hv : v < n) (h1 : bitB ws v = false) (h2 : bitB us v = true) : bcnt ws n < bcnt us n := by
 induction n with
 | zero => omega
 | succ n ih =>
  unfold bcnt
  by_cases e : v = n
  ·subst e
   have := bcnt_le ws us v (fun u hu => h u (by omega))
   rw [h1, h2]; simp; omega
  ·have h3 := ih (fun u hu => h u (by omega)) (by omega)
   have h4 := h n (by omega)
   cases e : bitB ws n with
   | false => simp; omega
   | true => rw [h4 e]; simp; omega
theorem bcnt_top (ws : List Nat) (n : Nat) : bcnt ws n ≤ n := by
 induction n with
 | zero => exact Nat.le_refl _
 | succ n ih => unfold bcnt; split <;> omega
/-- a set of fewer bits that is another -/
theorem bits_more {ws us : List Nat} (hl : ws.length = us.length) (hw : WordsOK ws) (hu : WordsOK us) (h : ∀ v, bitB ws v = true → bitB us v = true) (hne : ws ≠ us) : bcnt ws (64 * ws.length) < bcnt us (64 * ws.length) := by
 have : ∃ v, v < 64 * ws.length ∧ bitB ws v ≠ bitB us v := by
  apply Classical.byContradiction
  intro hn
  refine hne (bits_ext hl hw hu fun v hv => ?_)
  apply Classical.byContradiction
  intro h2
  exact hn ⟨v, hv, h2⟩
 obtain ⟨v, hv, h2⟩ := this
 cases e : bitB ws v with
 | true => rw [e, h v e] at h2; exact absurd rfl h2
 | false =>
  cases e' : bitB us v with
  | false => rw [e, e'] at h2; exact absurd rfl h2
  | true => exact bcnt_lt ws us _ (fun u _ => h u) v hv e e'
end Go.Proofs.YtjllbchfojonhaaDoor
namespace Go.Proofs.YtjllbchfojonhaaDoor
set_option linter.unusedVariables false

def bitsOf (w : Nat) : List Nat := (List.range 64).filter fun i => w.testBit i
theorem clear_low (w : Nat) (h0 : w ≠ 0) (h : w < 18446744073709551616) : Lib.ctz 64 w < 64 ∧ w.testBit (Lib.ctz 64 w) = true ∧ (∀ i, i < Lib.ctz 64 w → w.testBit i = false) ∧ ∀ i, (w &&& (w - 1)).testBit i = (w.testBit i && !decide (i = Lib.ctz 64 w)) := by
 obtain ⟨m, hm, hk⟩ := Lib.ctzFrom_spec 64 w (by omega) h
 have e : Lib.ctz 64 w = Lib.ctzFrom 64 w := by simp [Lib.ctz, h0]
 rw [e]
 generalize Lib.ctzFrom 64 w = t at *
 have b1 : ∀ i, w.testBit i = if i < t then false else (2 * m + 1).testBit (i - t) := by
  intro i
  rw [hm, Nat.testBit_two_pow_mul]
  by_cases hi : i < t
  ·rw [if_pos hi, decide_eq_false (by omega), Bool.false_and]
  ·rw [if_neg hi, decide_eq_true (by omega), Bool.true_and]
 have hw1 : w - 1 = 2 ^ t * (2 * m) + (2 ^ t - 1) := by
  have : 0 < 2 ^ t := Nat.two_pow_pos t
  rw [hm, Nat.mul_add]
  omega
 have b2 : ∀ i, (w - 1).testBit i = if i < t then true else (2 * m).testBit (i - t) := by
  intro i
  have hlt : 2 ^ t - 1 < 2 ^ t := by have : 0 < 2 ^ t := Nat.two_pow_pos t; omega
  rw [hw1, Nat.testBit_two_pow_mul_add _ hlt, Nat.testBit_two_pow_sub_one]
  by_cases hi : i < t
  ·rw [if_pos hi, if_pos hi, decide_eq_true hi]
  ·rw [if_neg hi, if_neg hi]
 have ht : w.testBit t = true := by rw [b1, if_neg (by omega), Nat.sub_self]; simp
 refine ⟨hk, ht, fun i hi => by rw [b1, if_pos hi], fun i => ?_⟩
 rw [Nat.testBit_and, b2]
 by_cases hi : i < t
 ·rw [if_pos hi, b1, if_pos hi]; rfl
 ·rw [if_neg hi]
  by_cases e2 : i = t
  ·subst e2
   rw [Nat.sub_self]; simp
  ·rw [decide_eq_false e2, Bool.not_false, Bool.and_true, b1, if_neg hi]
   obtain ⟨d, hd⟩ : ∃ d, i - t = d + 1 := ⟨i - t - 1, by omega⟩
   rw [hd, Nat.testBit_succ, Nat.testBit_succ, show (2 * m + 1) / 2 = m by omega, show 2 * m / 2 = m by omega, Bool.and_self]
theorem bitsOf_zero : bitsOf 0 = [] := by unfold bitsOf; simp
theorem bitsOf_step (w : Nat) (h0 : w ≠ 0) (h : w < 18446744073709551616) : bitsOf w = Lib.ctz 64 w :: bitsOf (w &&& (w - 1)) := by
 obtain ⟨h1, h2, h3, h4⟩ := clear_low w h0 h
 generalize Lib.ctz 64 w = t at *
 unfold bitsOf
 have hr : List.range 64 = List.range' 0 t ++ (t :: List.range' (t + 1) (63 - t)) := by
  rw [List.range_eq_range', show t :: List.range' (t + 1) (63 - t) = List.range' t (63 - t + 1) from rfl]
  have := @List.range'_append_1 0 t (63 - t + 1)
  rw [Nat.zero_add] at this
  rw [this]
  congr 1
  omega
 rw [hr, List.filter_append, List.filter_append]
 have e1 : (List.range' 0 t).filter (fun i => w.testBit i) = [] := by
  rw [List.filter_eq_nil_iff]
  intro a ha
  rw [List.mem_range'_1] at ha
  rw [h3 a (by omega)]; exact Bool.false_ne_true
 have e2 : (List.range' 0 t).filter (fun i => (w &&& (w - 1)).testBit i) = [] := by
  rw [List.filter_eq_nil_iff]
  intro a ha
  rw [List.mem_range'_1] at ha
  rw [h4, h3 a (by omega)]; exact Bool.false_ne_true
 rw [e1, e2, List.nil_append, List.nil_append, List.filter_cons_of_pos h2, List.filter_cons_of_neg (by rw [h4]; simp)]
 congr 1
 refine List.filter_congr fun a ha => ?_
 rw [List.mem_range'_1] at ha
 rw [h4, decide_eq_false (by omega), Bool.not_false, Bool.and_true]
theorem clear_less (w : Nat) (h0 : w ≠ 0) : w &&& (w - 1) < w := by
 have := @Nat.and_le_right w (w - 1)
 omega
/-- all of them -/
def listB (ws : List Nat) : List Nat := (List.range (64 * ws.length)).filter (bitB ws)
theorem list_take (ws : List Nat) (k : Nat) (hk : k < ws.length) : (List.range (64 * (k + 1))).filter (bitB ws) = (List.range (64 * k)).filter (bitB ws) ++ (bitsOf ws[k]!).map (k * 64 + ·) := by
 have hr : List.range (64 * (k + 1)) = List.range (64 * k) ++ (List.range 64).map (k * 64 + ·) := by
  rw [show 64 * (k + 1) = 64 * k + 64 by omega, List.range_add, Nat.mul_comm 64 k]
 rw [hr, List.filter_append]
 congr 1
 rw [List.filter_map]
 unfold bitsOf
 congr 1
 refine List.filter_congr fun a ha => ?_
 rw [List.mem_range] at ha
 show bitB ws (k * 64 + a) = _
 unfold bitB
 rw [show (k * 64 + a) / 64 = k by omega, show (k * 64 + a) % 64 = a by omega]
end Go.Proofs.YtjllbchfojonhaaDoor
namespace Go.Proofs.YtjllbchfojonhaaDoor
set_option linter.unusedVariables false

/-- ways: of a block's word (1: taken, 2: made, 0: nothing), and of where it leads -/
inductive LiveIn (g : Nat → Nat) (succ : Nat → List Nat) : Nat → Prop
 | here {b : Nat} : g b = 1 → LiveIn g succ b
 | on {b c : Nat} : g b = 0 → c ∈ succ b → LiveIn g succ c → LiveIn g succ b
def LiveOut (g : Nat → Nat) (succ : Nat → List Nat) (b : Nat) : Prop := ∃ c, c ∈ succ b ∧ LiveIn g succ c
section
variable {g : Nat → Nat} {succ : Nat → List Nat}
theorem liveIn_iff (b : Nat) : LiveIn g succ b ↔ g b = 1 ∨ (g b = 0 ∧ LiveOut g succ b) := by
 constructor
 ·intro h
  cases h with
  | here h => exact .inl h
  | on h h1 h2 => exact .inr ⟨h, _, h1, h2⟩
 ·rintro (h | ⟨h, c, h1, h2⟩)
  ·exact .here h
  ·exact .on h h1 h2
theorem flow_end (n : Nat) (I O : Nat → Bool) (hs : ∀ b, b < n → ∀ c, c ∈ succ b → c < n) (h1 : ∀ b, b < n → I b = (g b == 1 || (g b == 0 && O b))) (h2 : ∀ b, b < n → ∀ c, c ∈ succ b → I c = true → O b = true)
  (hO : ∀ b, b < n → O b = true → LiveOut g succ b) : (∀ b, b < n → (I b = true ↔ LiveIn g succ b)) ∧ ∀ b, b < n → (O b = true ↔ LiveOut g succ b) := by
 have key : ∀ c, LiveIn g succ c → c < n → I c = true := by
  intro c hc
  induction hc with
  | here h => intro hn; rw [h1 _ hn, h]; rfl
  | on h hm _ ih =>
   intro hn
   rw [h1 _ hn, h, h2 _ hn _ hm (ih (hs _ hn _ hm))]
   rfl
 have hOO : ∀ b, b < n → (O b = true ↔ LiveOut g succ b) := fun b hb => ⟨hO b hb, fun ⟨c, hm, hc⟩ => h2 b hb c hm (key c hc (hs b hb c hm))⟩
 refine ⟨fun b hb => ⟨fun h => ?_, fun h => key b h hb⟩, hOO⟩
 rw [h1 b hb, Bool.or_eq_true, Bool.and_eq_true, beq_iff_eq, beq_iff_eq] at h
 rcases h with h | ⟨h, h'⟩
 ·exact .here h
 ·obtain ⟨c, hm, hc⟩ := hO b hb h'
  exact .on h hm hc
end
end Go.Proofs.YtjllbchfojonhaaDoor
namespace Go.Proofs.YtjllbchfojonhaaDoor
set_option linter.unusedVariables false

/-- from a place on: 1: taken, 2: made, 0: nothing -/
def thrL (v : Int) (t : Bool) : List InstM → Nat
 | [] => if t = true then 1 else 0
 | x :: l => if x.args.2.contains v = true then 1 else if x.dst = v then 2 else thrL v t l
def termTakes (b : BlockM) (v : Int) : Bool := !(b.kind == 0) && b.var == v
def thr (b : BlockM) (v : Int) (place : Nat) : Nat := thrL v (termTakes b v) (b.insts.2.drop place)
def succM (b : BlockM) : List Nat := if b.kind = 0 then [b.to0.toNat] else if b.kind = 1 then [b.to0.toNat, b.to1.toNat] else []

def addW (ws : List Nat) (v : Nat) : List Nat := ws.set (v / 64) (ws[v / 64]! ||| 2 ^ (v % 64))
def clearN (a m : Nat) : Nat := a ^^^ (a &&& 2 ^ m)
def dropW (ws : List Nat) (v : Nat) : List Nat := ws.set (v / 64) (clearN ws[v / 64]! (v % 64))
def usesL (l : List Int) : List Int := l.foldl (fun o v => if o.contains v = true then o else o ++ [v]) []
def addsW (ws : List Nat) (l : List Int) : List Nat := l.foldl (fun s v => addW s v.toNat) ws
def instW (x : InstM) (ws : List Nat) : List Nat := addsW (if 0 ≤ x.dst then dropW ws x.dst.toNat else ws) (usesL x.args.2)
def instsW (l : List InstM) (ws : List Nat) : List Nat := l.foldr instW ws
def backW (b : BlockM) (ws : List Nat) (place : Nat) : List Nat := instsW (b.insts.2.drop place) (if b.kind = 0 then ws else addW ws b.var.toNat)

theorem clear_bit (a m i : Nat) : (clearN a m).testBit i = (a.testBit i && !(2 ^ m).testBit i) := by
 unfold clearN
 rw [Nat.testBit_xor, Nat.testBit_and]
 cases a.testBit i <;> cases (2 ^ m).testBit i <;> rfl
theorem addW_len (ws : List Nat) (v : Nat) : (addW ws v).length = ws.length := by unfold addW; rw [List.length_set]
theorem dropW_len (ws : List Nat) (v : Nat) : (dropW ws v).length = ws.length := by unfold dropW; rw [List.length_set]
theorem addsW_len (l : List Int) (ws : List Nat) : (addsW ws l).length = ws.length := by
 unfold addsW
 induction l generalizing ws with
 | nil => rfl
 | cons v l ih => rw [List.foldl_cons, ih, addW_len]
theorem instW_len (x : InstM) (ws : List Nat) : (instW x ws).length = ws.length := by
 unfold instW
 rw [addsW_len]
 split
 ·exact dropW_len _ _
 ·rfl
theorem instsW_len (l : List InstM) (ws : List Nat) : (instsW l ws).length = ws.length := by
 induction l with
 | nil => rfl
 | cons x l ih => show (instW x (instsW l ws)).length = _; rw [instW_len, ih]
theorem backW_len (b : BlockM) (ws : List Nat) (place : Nat) : (backW b ws place).length = ws.length := by
 unfold backW
 rw [instsW_len]
 split
 ·rfl
 ·exact addW_len _ _
theorem two_lt (m : Nat) (h : m < 64) : 2 ^ m < 18446744073709551616 := by
 rw [show 18446744073709551616 = 2 ^ 64 from rfl]; exact Nat.pow_lt_pow_right (by decide) h
theorem addW_ok {ws : List Nat} (h : WordsOK ws) (v : Nat) : WordsOK (addW ws v) :=
 h.set _ (Nat.or_lt_two_pow (n := 64) (h.at _) (two_lt _ (Nat.mod_lt _ (by decide))))
theorem dropW_ok {ws : List Nat} (h : WordsOK ws) (v : Nat) : WordsOK (dropW ws v) :=
 h.set _ (Nat.xor_lt_two_pow (n := 64) (h.at _) (Nat.and_lt_two_pow (n := 64) _ (two_lt _ (Nat.mod_lt _ (by decide)))))
theorem addsW_ok (l : List Int) {ws : List Nat} (h : WordsOK ws) : WordsOK (addsW ws l) := by
 unfold addsW
 induction l generalizing ws with
 | nil => exact h
 | cons v l ih => rw [List.foldl_cons]; exact ih (addW_ok h _)
theorem instW_ok (x : InstM) {ws : List Nat} (h : WordsOK ws) : WordsOK (instW x ws) := by
 unfold instW
 apply addsW_ok
 split
 ·exact dropW_ok h _
 ·exact h
theorem instsW_ok (l : List InstM) {ws : List Nat} (h : WordsOK ws) : WordsOK (instsW l ws) := by
 induction l with
 | nil => exact h
 | cons x l ih => exact instW_ok x ih
theorem backW_ok (b : BlockM) {ws : List Nat} (h : WordsOK ws) (place : Nat) : WordsOK (backW b ws place) := by
 unfold backW
 apply instsW_ok
 split
 ·exact h
 ·exact addW_ok h _

theorem uses_aux (l o : List Int) (v : Int) : (l.foldl (fun o v => if o.contains v = true then o else o ++ [v]) o).contains v = (o.contains v || l.contains v) := by
 induction l generalizing o with
 | nil => simp
 | cons x l ih =>
  rw [List.foldl_cons, ih]
  by_cases h : o.contains x = true
  ·rw [if_pos h]
   rw [Bool.eq_iff_iff]
   simp only [Bool.or_eq_true, List.contains_iff_mem, List.mem_cons] at h ⊢
   constructor
   ·rintro (h1 | h1)
    ·exact .inl h1
    ·exact .inr (.inr h1)
   ·rintro (h1 | rfl | h1)
    ·exact .inl h1
    ·exact .inl h
    ·exact .inr h1
  ·rw [if_neg h]
   rw [Bool.eq_iff_iff]
   simp only [Bool.or_eq_true, List.contains_iff_mem, List.mem_cons, List.mem_append, List.not_mem_nil, or_false]
   constructor
   ·rintro ((h1 | h1) | h1)
    ·exact .inl h1
    ·exact .inr (.inl h1)
    ·exact .inr (.inr h1)
   ·rintro (h1 | h1 | h1)
    ·exact .inl (.inl h1)
    ·exact .inl (.inr h1)
    ·exact .inr h1
theorem uses_has (l : List Int) (v : Int) : (usesL l).contains v = l.contains v := by
 unfold usesL
 rw [uses_aux]; simp
theorem uses_mem {l : List Int} {v : Int} : v ∈ usesL l ↔ v ∈ l := by
 have := uses_has l v
 rw [Bool.eq_iff_iff, List.contains_iff_mem, List.contains_iff_mem] at this
 exact this

theorem bit_addsW (l : List Int) (ws : List Nat) (u : Nat) (h : ∀ v ∈ l, 0 ≤ v ∧ v.toNat / 64 < ws.length) : bitB (addsW ws l) u = (bitB ws u || l.contains (u : Int)) := by
 unfold addsW
 induction l generalizing ws with
 | nil => simp
 | cons v l ih =>
  have hv := h v (List.mem_cons_self ..)
  rw [List.foldl_cons, ih _ (fun w hw => by rw [addW_len]; exact h w (List.mem_cons_of_mem _ hw))]
  unfold addW
  rw [bit_add _ _ hv.2, List.contains_cons, Bool.or_assoc]
  congr 2
  rw [Bool.eq_iff_iff, decide_eq_true_eq, beq_iff_eq]
  omega
/-- a program's numbers are in range -/
def InstIn (n : Nat) (x : InstM) : Prop := (∀ v ∈ x.args.2, 0 ≤ v ∧ v < (n : Int)) ∧ x.dst < (n : Int)
theorem word_in {n m : Nat} {v : Int} (hm : m = (n + 63) / 64) (h : 0 ≤ v ∧ v < (n : Int)) : v.toNat / 64 < m := by omega
theorem bit_instW (x : InstM) (ws : List Nat) (n : Nat) (hl : ws.length = (n + 63) / 64) (hx : InstIn n x) (u : Nat) :
  bitB (instW x ws) u = (x.args.2.contains (u : Int) || (!decide (x.dst = (u : Int)) && bitB ws u)) := by
 unfold instW
 have hu : ∀ v ∈ usesL x.args.2, 0 ≤ v ∧ v.toNat / 64 < (if 0 ≤ x.dst then dropW ws x.dst.toNat else ws).length := fun v hv => by
  have h := hx.1 v (uses_mem.1 hv)
  refine ⟨h.1, ?_⟩
  have h2 := word_in hl h
  split
  ·rw [dropW_len]; exact h2
  ·exact h2
 rw [bit_addsW _ _ _ hu, uses_has, Bool.or_comm]
 congr 1
 by_cases hd : 0 ≤ x.dst
 ·rw [if_pos hd]
  unfold dropW
  rw [bit_drop _ _ _ (word_in hl ⟨hd, hx.2⟩) (fun i _ => clear_bit _ _ i), Bool.and_comm]
  congr 2
  rw [decide_eq_decide]
  omega
 ·rw [if_neg hd, decide_eq_false (show ¬ x.dst = (u : Int) by omega)]
  rfl
theorem bit_instsW (l : List InstM) (ws : List Nat) (n : Nat) (hl : ws.length = (n + 63) / 64) (hx : ∀ x ∈ l, InstIn n x) (t : Bool) (u : Nat) :
  bitB (instsW l (if t = true then addW ws u else ws)) u = (thrL (u : Int) t l == 1 || (thrL (u : Int) t l == 0 && bitB ws u)) ∨ ¬ u / 64 < ws.length := by
 by_cases hu : u / 64 < ws.length
 ·left
  induction l with
  | nil =>
   show bitB (if t = true then addW ws u else ws) u = _
   cases t with
   | true =>
    rw [if_pos rfl]
    unfold addW
    rw [bit_add _ _ hu]
    simp [thrL]
   | false =>
    rw [if_neg (by decide)]
    simp [thrL]
  | cons x l ih =>
   have ih := ih (fun y hy => hx y (List.mem_cons_of_mem _ hy))
   show bitB (instW x (instsW l _)) u = _
   rw [bit_instW x _ n (by rw [instsW_len]; split <;> simp [addW_len, hl]) (hx x (List.mem_cons_self ..)), ih]
   rw [show thrL (u : Int) t (x :: l) = if x.args.2.contains (u : Int) = true then 1 else if x.dst = (u : Int) then 2 else thrL (u : Int) t l from rfl]
   by_cases h1 : x.args.2.contains (u : Int) = true
   ·rw [if_pos h1, h1]; rfl
   ·rw [if_neg h1]
    rw [Bool.not_eq_true] at h1
    rw [h1]
    by_cases h2 : x.dst = (u : Int)
    ·rw [if_pos h2, decide_eq_true h2]; rfl
    ·rw [if_neg h2, decide_eq_false h2]
     simp only [Bool.false_or, Bool.not_false, Bool.true_and]
 ·exact .inr hu
theorem instsW_bit (l : List InstM) (ws us : List Nat) (n : Nat) (hl : ws.length = (n + 63) / 64) (hl2 : us.length = ws.length) (hx : ∀ x ∈ l, InstIn n x) (u : Nat) (h : bitB ws u = bitB us u) : bitB (instsW l ws) u = bitB (instsW l us) u := by
 induction l with
 | nil => exact h
 | cons x l ih =>
  show bitB (instW x (instsW l ws)) u = bitB (instW x (instsW l us)) u
  rw [bit_instW x _ n (by rw [instsW_len, hl]) (hx x (List.mem_cons_self ..)), bit_instW x _ n (by rw [instsW_len, hl2, hl]) (hx x (List.mem_cons_self ..)), ih (fun y hy => hx y (List.mem_cons_of_mem _ hy))]
/-- a block's numbers are in range -/
def BlockIn (n : Nat) (b : BlockM) : Prop := (∀ x ∈ b.insts.2, InstIn n x) ∧ (¬ b.kind = 0 → 0 ≤ b.var ∧ b.var < (n : Int))
theorem bit_backW (b : BlockM) (ws : List Nat) (n : Nat) (hl : ws.length = (n + 63) / 64) (hb : BlockIn n b) (place u : Nat) (huw : u / 64 < ws.length) :
  bitB (backW b ws place) u = (thr b (u : Int) place == 1 || (thr b (u : Int) place == 0 && bitB ws u)) := by
 have hx : ∀ x ∈ b.insts.2.drop place, InstIn n x := fun x hx => hb.1 x (List.mem_of_mem_drop hx)
 have h := bit_instsW (b.insts.2.drop place) ws n hl hx (termTakes b (u : Int)) u
 rcases h with h | h
 ·unfold thr
  rw [← h]
  unfold backW
  by_cases hk : b.kind = 0
  ·have e : termTakes b (u : Int) = false := by unfold termTakes; rw [hk]; rfl
   rw [if_pos hk, e, if_neg (by decide)]
  ·rw [if_neg hk]
   have hv := hb.2 hk
   have e : termTakes b (u : Int) = decide (b.var = (u : Int)) := by
    unfold termTakes
    rw [show (b.kind == 0) = false by simpa using hk]
    rw [Bool.eq_iff_iff]; simp
   rw [e]
   refine instsW_bit _ _ _ n (by rw [addW_len, hl]) (by split <;> simp [addW_len]) hx u ?_
   by_cases h2 : b.var = (u : Int)
   ·rw [decide_eq_true h2, if_pos rfl, h2]; rfl
   ·rw [decide_eq_false h2, if_neg (by decide)]
    unfold addW
    rw [bit_add _ _ (word_in hl hv), decide_eq_false (by omega), Bool.or_false]
 ·exact absurd huw h
end Go.Proofs.YtjllbchfojonhaaDoor
namespace Go.Proofs.YtjllbchfojonhaaDoor
set_option linter.unusedVariables false

def joinTo (s t : List Nat) (j : Nat) : List Nat := (List.range s.length).map fun i => if i < j then s[i]! ||| t[i]! else s[i]!
def joinW (s t : List Nat) : List Nat := joinTo s t s.length
def joinsW (s : List Nat) (ts : List (List Nat)) : List Nat := ts.foldl joinW s
def endsM (b : BlockM) : List Int := if b.kind = 0 then [b.to0] else if b.kind = 1 then (if b.to0 = b.to1 then [b.to0] else [b.to0, b.to1]) else []

theorem joinTo_len (s t : List Nat) (j : Nat) : (joinTo s t j).length = s.length := by unfold joinTo; simp
theorem joinTo_at (s t : List Nat) (j k : Nat) (hk : k < s.length) : (joinTo s t j)[k]! = if k < j then s[k]! ||| t[k]! else s[k]! := by
 rw [getElem!_pos _ k (by rw [joinTo_len]; exact hk)]
 unfold joinTo
 simp
theorem joinTo_zero (s t : List Nat) : joinTo s t 0 = s := by
 refine List.ext_getElem (joinTo_len _ _ _) fun k h1 h2 => ?_
 have := joinTo_at s t 0 k h2
 rw [getElem!_pos _ k h1, if_neg (by omega), getElem!_pos s k h2] at this
 exact this
theorem joinTo_step (s t : List Nat) (j : Nat) (hj : j < s.length) : joinTo s t (j + 1) = (joinTo s t j).set j (s[j]! ||| t[j]!) := by
 refine List.ext_getElem (by rw [List.length_set, joinTo_len, joinTo_len]) fun k h1 h2 => ?_
 rw [joinTo_len] at h1
 have e1 := joinTo_at s t (j + 1) k h1
 have e2 := joinTo_at s t j k h1
 rw [getElem!_pos _ k (by rw [joinTo_len]; exact h1)] at e1 e2
 rw [e1, List.getElem_set, e2]
 by_cases h : j = k
 ·subst h; rw [if_pos rfl, if_pos (by omega)]
 ·rw [if_neg h]
  by_cases h3 : k < j
  ·rw [if_pos h3, if_pos (by omega)]
  ·rw [if_neg h3, if_neg (by omega)]
theorem joinW_len (s t : List Nat) : (joinW s t).length = s.length := joinTo_len _ _ _
theorem joinW_ok {s t : List Nat} (hs : WordsOK s) (ht : WordsOK t) : WordsOK (joinW s t) := by
 intro x hx
 obtain ⟨k, hk, rfl⟩ := List.mem_iff_getElem.1 hx
 rw [joinW_len] at hk
 have := joinTo_at s t s.length k hk
 rw [getElem!_pos _ k (by rw [joinTo_len]; exact hk), if_pos hk] at this
 rw [show (joinW s t)[k] = s[k]! ||| t[k]! from this]
 exact Nat.or_lt_two_pow (n := 64) (hs.at k) (ht.at k)
theorem bit_over {ws : List Nat} {u : Nat} (h : ¬ u / 64 < ws.length) : bitB ws u = false := by
 unfold bitB
 rw [getElem!_neg ws _ h]
 exact Nat.zero_testBit _
theorem bit_joinW {s t : List Nat} (hl : t.length = s.length) (u : Nat) : bitB (joinW s t) u = (bitB s u || bitB t u) := by
 by_cases h : u / 64 < s.length
 ·unfold bitB joinW
  rw [joinTo_at _ _ _ _ h, if_pos h, Nat.testBit_or]
 ·rw [bit_over (by rw [joinW_len]; exact h), bit_over h, bit_over (by rw [hl]; exact h)]; rfl
theorem joinsW_len (s : List Nat) (ts : List (List Nat)) : (joinsW s ts).length = s.length := by
 unfold joinsW
 induction ts generalizing s with
 | nil => rfl
 | cons t ts ih => rw [List.foldl_cons, ih, joinW_len]
theorem joinsW_ok {s : List Nat} {ts : List (List Nat)} (hs : WordsOK s) (ht : ∀ t ∈ ts, WordsOK t) : WordsOK (joinsW s ts) := by
 unfold joinsW
 induction ts generalizing s with
 | nil => exact hs
 | cons t ts ih => rw [List.foldl_cons]; exact ih (joinW_ok hs (ht t (List.mem_cons_self ..))) (fun t h => ht t (List.mem_cons_of_mem _ h))
theorem bit_joinsW (s : List Nat) (ts : List (List Nat)) (hl : ∀ t ∈ ts, t.length = s.length) (u : Nat) : bitB (joinsW s ts) u = true ↔ bitB s u = true ∨ ∃ t ∈ ts, bitB t u = true := by
 unfold joinsW
 induction ts generalizing s with
 | nil => simp
 | cons t ts ih =>
  rw [List.foldl_cons, ih _ (fun t' h => by rw [joinW_len]; exact hl t' (List.mem_cons_of_mem _ h)), bit_joinW (hl t (List.mem_cons_self ..))]
  rw [Bool.or_eq_true]
  constructor
  ·rintro ((h | h) | ⟨t', h, h'⟩)
   ·exact .inl h
   ·exact .inr ⟨t, List.mem_cons_self .., h⟩
   ·exact .inr ⟨t', List.mem_cons_of_mem _ h, h'⟩
  ·rintro (h | ⟨t', h, h'⟩)
   ·exact .inl (.inl h)
   ·rcases List.mem_cons.1 h with rfl | h
    ·exact .inl (.inr h')
    ·exact .inr ⟨t', h, h'⟩
theorem mem_succ {b : BlockM} {c : Nat} : c ∈ succM b ↔ ∃ z ∈ endsM b, z.toNat = c := by
 unfold succM endsM
 by_cases h0 : b.kind = 0
 ·rw [if_pos h0, if_pos h0]; simp [eq_comm]
 ·rw [if_neg h0, if_neg h0]
  by_cases h1 : b.kind = 1
  ·rw [if_pos h1, if_pos h1]
   by_cases h2 : b.to0 = b.to1
   ·rw [if_pos h2, h2]; simp [eq_comm]
   ·rw [if_neg h2]; simp [eq_comm]
  ·rw [if_neg h1, if_neg h1]; simp

section
variable (blk : Nat → BlockM)
def gOf (v c : Nat) : Nat := thr (blk c) (v : Int) 0
def sOf (c : Nat) : List Nat := succM (blk c)
structure FlowInv (nb n : Nat) (I O : List (List Nat)) : Prop where
 il : I.length = nb
 ol : O.length = nb
 iw : ∀ b, b < nb → I[b]!.length = (n + 63) / 64 ∧ WordsOK I[b]!
 ow : ∀ b, b < nb → O[b]!.length = (n + 63) / 64 ∧ WordsOK O[b]!
 ilive : ∀ b, b < nb → ∀ v, bitB I[b]! v = true → LiveIn (gOf blk v) (sOf blk) b
 olive : ∀ b, b < nb → ∀ v, bitB O[b]! v = true → LiveOut (gOf blk v) (sOf blk) b
 mono : ∀ b, b < nb → ∀ v, bitB I[b]! v = true → bitB (backW (blk b) O[b]! 0) v = true
def FlowFix (nb : Nat) (I O : List (List Nat)) (j : Nat) : Prop :=
 ∀ b, j ≤ b → b < nb → I[b]! = backW (blk b) O[b]! 0 ∧ ∀ c, c ∈ sOf blk b → ∀ v, bitB I[c]! v = true → bitB O[b]! v = true
def outOf (I O : List (List Nat)) (i : Nat) : List Nat := joinsW O[i]! ((endsM (blk i)).map fun to => I[to.toNat]!)
def sumB (m : Nat) (I : List (List Nat)) : Nat := (I.map fun ws => bcnt ws (64 * m)).sum
end
section
variable {blk : Nat → BlockM} {nb n : Nat} {I O : List (List Nat)}
theorem lset_bang {α : Type} [Inhabited α] {l : List α} (k j : Nat) (c : α) (hk : k < l.length) : (l.set k c)[j]! = if j = k then c else l[j]! := by
 by_cases hj : j < l.length
 ·rw [getElem!_pos _ j (by simpa using hj), getElem!_pos l j hj, List.getElem_set]
  by_cases e : k = j
  ·subst e; simp
  ·rw [if_neg e, if_neg (fun h => e h.symm)]
 ·rw [getElem!_neg _ j (by simpa using hj), getElem!_neg l j hj, if_neg (by omega)]
theorem sumB_set (m : Nat) (I : List (List Nat)) (i : Nat) (hi : i < I.length) (s : List Nat) : sumB m (I.set i s) + bcnt I[i]! (64 * m) = sumB m I + bcnt s (64 * m) := by
 unfold sumB
 induction I generalizing i with
 | nil => exact absurd hi (Nat.not_lt_zero _)
 | cons a I ih =>
  cases i with
  | zero => simp only [List.set_cons_zero, List.map_cons, List.sum_cons, List.getElem!_cons_zero]; omega
  | succ i =>
   have := ih i (by simpa using hi)
   simp only [List.set_cons_succ, List.map_cons, List.sum_cons, List.getElem!_cons_succ]
   omega
theorem sumB_top (m : Nat) (I : List (List Nat)) : sumB m I ≤ I.length * (64 * m) := by
 unfold sumB
 induction I with
 | nil => simp
 | cons a I ih =>
  have := bcnt_top a (64 * m)
  generalize 64 * m = M at *
  rw [List.map_cons, List.sum_cons, List.length_cons, Nat.succ_mul]
  omega
theorem out_len (h : FlowInv blk nb n I O) {i : Nat} (hi : i < nb) : (outOf blk I O i).length = (n + 63) / 64 := by
 unfold outOf; rw [joinsW_len, (h.ow i hi).1]
theorem ends_lt (hs : ∀ b, b < nb → ∀ c, c ∈ sOf blk b → c < nb) {i : Nat} (hi : i < nb) {z : Int} (hz : z ∈ endsM (blk i)) : z.toNat < nb := hs i hi _ (mem_succ.2 ⟨z, hz, rfl⟩)
theorem out_ok (h : FlowInv blk nb n I O) (hs : ∀ b, b < nb → ∀ c, c ∈ sOf blk b → c < nb) {i : Nat} (hi : i < nb) : WordsOK (outOf blk I O i) := by
 refine joinsW_ok (h.ow i hi).2 fun t ht => ?_
 obtain ⟨z, hz, rfl⟩ := List.mem_map.1 ht
 exact (h.iw _ (ends_lt hs hi hz)).2
theorem bit_out (h : FlowInv blk nb n I O) (hs : ∀ b, b < nb → ∀ c, c ∈ sOf blk b → c < nb) {i : Nat} (hi : i < nb) (v : Nat) :
  bitB (outOf blk I O i) v = true ↔ bitB O[i]! v = true ∨ ∃ c ∈ sOf blk i, bitB I[c]! v = true := by
 unfold outOf
 rw [bit_joinsW _ _ (fun t ht => by
  obtain ⟨z, hz, rfl⟩ := List.mem_map.1 ht
  rw [(h.iw _ (ends_lt hs hi hz)).1, (h.ow i hi).1])]
 refine or_congr Iff.rfl ?_
 constructor
 ·rintro ⟨t, ht, hb⟩
  obtain ⟨z, hz, rfl⟩ := List.mem_map.1 ht
  exact ⟨_, mem_succ.2 ⟨z, hz, rfl⟩, hb⟩
 ·rintro ⟨c, hc, hb⟩
  obtain ⟨z, hz, rfl⟩ := mem_succ.1 hc
  exact ⟨_, List.mem_map.2 ⟨z, hz, rfl⟩, hb⟩
theorem back_live {b : Nat} (hb : BlockIn n (blk b)) {ws : List Nat} (hl : ws.length = (n + 63) / 64) (place v : Nat) :
  bitB (backW (blk b) ws place) v = true ↔ v / 64 < (n + 63) / 64 ∧ (thr (blk b) (v : Int) place = 1 ∨ thr (blk b) (v : Int) place = 0 ∧ bitB ws v = true) := by
 by_cases hv : v / 64 < ws.length
 ·rw [bit_backW (blk b) ws n hl hb place v hv, Bool.or_eq_true, Bool.and_eq_true, beq_iff_eq, beq_iff_eq]
  rw [hl] at hv
  exact ⟨fun h => ⟨hv, h⟩, fun h => h.2⟩
 ·rw [bit_over (by rw [backW_len]; exact hv)]
  rw [hl] at hv
  exact ⟨fun h => (by cases h), fun h => absurd h.1 hv⟩
/-- out turned alone -/
theorem flow_out (h : FlowInv blk nb n I O) (hs : ∀ b, b < nb → ∀ c, c ∈ sOf blk b → c < nb) (hb : ∀ b, b < nb → BlockIn n (blk b)) {i : Nat} (hi : i < nb) : FlowInv blk nb n I (O.set i (outOf blk I O i)) := by
 have hio : i < O.length := by rw [h.ol]; exact hi
 refine ⟨h.il, by rw [List.length_set, h.ol], h.iw, fun b hlt => ?_, h.ilive, fun b hlt v hv => ?_, fun b hlt v hv => ?_⟩
 ·rw [lset_bang _ _ _ hio]
  split
  ·exact ⟨out_len h hi, out_ok h hs hi⟩
  ·exact h.ow b hlt
 ·rw [lset_bang _ _ _ hio] at hv
  split at hv
  ·rename_i e; subst e
   rcases (bit_out h hs hi v).1 hv with h1 | ⟨c, hc, h1⟩
   ·exact h.olive b hi v h1
   ·exact ⟨c, hc, h.ilive c (hs b hi c hc) v h1⟩
  ·exact h.olive b hlt v hv
 ·rw [lset_bang _ _ _ hio]
  split
  ·rename_i e; subst e
   have h1 := (back_live (hb b hlt) (h.ow b hlt).1 0 v).1 (h.mono b hlt v hv)
   refine (back_live (hb b hlt) (out_len h hi) 0 v).2 ⟨h1.1, h1.2.imp id fun h2 => ⟨h2.1, ?_⟩⟩
   exact (bit_out h hs hi v).2 (.inl h2.2)
  ·exact h.mono b hlt v hv
/-- in turned -/
theorem flow_in (h : FlowInv blk nb n I O) (hb : ∀ b, b < nb → BlockIn n (blk b)) {i : Nat} (hi : i < nb) : FlowInv blk nb n (I.set i (backW (blk i) O[i]! 0)) O := by
 have hil : i < I.length := by rw [h.il]; exact hi
 refine ⟨by rw [List.length_set, h.il], h.ol, fun b hlt => ?_, h.ow, fun b hlt v hv => ?_, h.olive, fun b hlt v hv => ?_⟩
 ·rw [lset_bang _ _ _ hil]
  split
  ·exact ⟨by rw [backW_len, (h.ow i hi).1], backW_ok _ (h.ow i hi).2 _⟩
  ·exact h.iw b hlt
 ·rw [lset_bang _ _ _ hil] at hv
  split at hv
  ·rename_i e; subst e
   rcases ((back_live (hb b hlt) (h.ow b hlt).1 0 v).1 hv).2 with h1 | ⟨h1, h2⟩
   ·exact .here h1
   ·obtain ⟨c, hc, h3⟩ := h.olive b hlt v h2
    exact .on h1 hc h3
  ·exact h.ilive b hlt v hv
 ·rw [lset_bang _ _ _ hil] at hv
  split at hv
  ·rename_i e; subst e; exact hv
  ·exact h.mono b hlt v hv
/-- nothing turned at a block -/
theorem fix_same (h : FlowInv blk nb n I O) (hs : ∀ b, b < nb → ∀ c, c ∈ sOf blk b → c < nb) {i : Nat} (hi : i < nb) (hf : FlowFix blk nb I O (i + 1)) (he : backW (blk i) (outOf blk I O i) 0 = I[i]!) : FlowFix blk nb I (O.set i (outOf blk I O i)) i := by
 have hio : i < O.length := by rw [h.ol]; exact hi
 intro b hib hlt
 rw [lset_bang _ _ _ hio]
 by_cases e : b = i
 ·subst e
  rw [if_pos rfl]
  exact ⟨he.symm, fun c hc v hv => (bit_out h hs hi v).2 (.inr ⟨c, hc, hv⟩)⟩
 ·rw [if_neg e]
  exact hf b (by omega) hlt
/-- something turned: more bits -/
theorem sum_more (h : FlowInv blk nb n I O) (hs : ∀ b, b < nb → ∀ c, c ∈ sOf blk b → c < nb) (hb : ∀ b, b < nb → BlockIn n (blk b)) {i : Nat} (hi : i < nb) (he : backW (blk i) (outOf blk I O i) 0 ≠ I[i]!) :
  sumB ((n + 63) / 64) I < sumB ((n + 63) / 64) (I.set i (backW (blk i) (outOf blk I O i) 0)) := by
 have h2 := flow_out h hs hb hi
 have hio : i < O.length := by rw [h.ol]; exact hi
 have e0 : (O.set i (outOf blk I O i))[i]! = outOf blk I O i := by rw [lset_bang _ _ _ hio, if_pos rfl]
 have hm : ∀ v, bitB I[i]! v = true → bitB (backW (blk i) (outOf blk I O i) 0) v = true := fun v hv => by
  have := h2.mono i hi v hv
  rwa [e0] at this
 have hl : I[i]!.length = (backW (blk i) (outOf blk I O i) 0).length := by rw [(h.iw i hi).1, backW_len, out_len h hi]
 have := bits_more hl (h.iw i hi).2 (backW_ok _ (out_ok h hs hi) _) hm (fun e => he e.symm)
 rw [(h.iw i hi).1] at this
 have h3 := sumB_set ((n + 63) / 64) I i (by rw [h.il]; exact hi) (backW (blk i) (outOf blk I O i) 0)
 omega
/-- the end of the flow -/
theorem flow_done (h : FlowInv blk nb n I O) (hs : ∀ b, b < nb → ∀ c, c ∈ sOf blk b → c < nb) (hb : ∀ b, b < nb → BlockIn n (blk b)) (hf : FlowFix blk nb I O 0) (v : Nat) (hv : v < n) :
  (∀ b, b < nb → (bitB I[b]! v = true ↔ LiveIn (gOf blk v) (sOf blk) b)) ∧ ∀ b, b < nb → (bitB O[b]! v = true ↔ LiveOut (gOf blk v) (sOf blk) b) :=
 flow_end nb (fun b => bitB I[b]! v) (fun b => bitB O[b]! v) hs (fun b hlt => by
  show bitB I[b]! v = _
  rw [(hf b (Nat.zero_le _) hlt).1, bit_backW (blk b) _ n (h.ow b hlt).1 (hb b hlt) 0 v (by rw [(h.ow b hlt).1]; omega)]
  rfl) (fun b hlt c hc hi => (hf b (Nat.zero_le _) hlt).2 c hc v hi) (fun b hlt ho => h.olive b hlt v ho)
/-- beyond the variables there is nothing -/
theorem thr_over {b : Nat} (hb : BlockIn n (blk b)) {v : Nat} (hv : n ≤ v) (place : Nat) : thr (blk b) (v : Int) place = 0 := by
 unfold thr
 have hx : ∀ x ∈ (blk b).insts.2.drop place, InstIn n x := fun x hx => hb.1 x (List.mem_of_mem_drop hx)
 have ht : termTakes (blk b) (v : Int) = false := by
  unfold termTakes
  by_cases h0 : (blk b).kind = 0
  ·rw [h0]; rfl
  ·have := hb.2 h0
   rw [show ((blk b).var == (v : Int)) = false by rw [beq_eq_false_iff_ne]; omega, Bool.and_false]
 rw [ht]
 generalize (blk b).insts.2.drop place = l at hx
 induction l with
 | nil => rfl
 | cons x l ih =>
  have h := hx x (List.mem_cons_self ..)
  have h1 : ¬ x.args.2.contains (v : Int) = true := fun hc => by
   rw [List.contains_iff_mem] at hc
   have := h.1 _ hc
   omega
  rw [show thrL (v : Int) false (x :: l) = if x.args.2.contains (v : Int) = true then 1 else if x.dst = (v : Int) then 2 else thrL (v : Int) false l from rfl, if_neg h1, if_neg (by have := h.2; omega)]
  exact ih (fun y hy => hx y (List.mem_cons_of_mem _ hy))
end
end Go.Proofs.YtjllbchfojonhaaDoor
namespace Go.Proofs.YtjllbchfojonhaaDoor
set_option linter.unusedVariables false
section
variable (g : Nat → Nat) (succ : Nat → List Nat) (b0 nb : Nat)
end
section
variable {g : Nat → Nat} {succ : Nat → List Nat} {b0 nb : Nat} {seen : Nat → Bool} {q : List Nat} {x : Nat}
end
section
variable (blk : Nat → BlockM)
noncomputable def liveB (v b p : Nat) : Bool := @decide (thr (blk b) (v : Int) p = 1 ∨ thr (blk b) (v : Int) p = 0 ∧ LiveOut (gOf blk v) (sOf blk) b) (Classical.propDecidable _)
end
theorem liveB_iff {blk : Nat → BlockM} {v b p : Nat} : liveB blk v b p = true ↔ thr (blk b) (v : Int) p = 1 ∨ thr (blk b) (v : Int) p = 0 ∧ LiveOut (gOf blk v) (sOf blk) b := by
 unfold liveB; exact @decide_eq_true_iff _ (Classical.propDecidable _)
end Go.Proofs.YtjllbchfojonhaaDoor
namespace Go.Proofs.YtjllbchfojonhaaDoor
set_option linter.unusedVariables false

section
variable {succ : Nat → List Nat} {t : Nat → Bool → Bool}
end
end Go.Proofs.YtjllbchfojonhaaDoor
namespace Go.Proofs.YtjllbchfojonhaaDoor
set_option linter.unusedVariables false

section
variable {ends : Nat → List Nat} {nb : Nat} {seen : List Bool} {out : List Nat} {pre : List (Nat × Nat)} {c k : Nat}
end
end Go.Proofs.YtjllbchfojonhaaDoor
