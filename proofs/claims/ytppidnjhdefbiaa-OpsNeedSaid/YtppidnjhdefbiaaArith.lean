/- Contracts of package arith: sum, difference, product, quotient, rest, and which fit. -/
import Derived.Test.YtppidnjhdefbiaaChecked
import Derived.WalkKit
import Derived.WalkLawsBesides
import Derived.WalkSpells
import Derived.BigQuiet
import Derived.Deep.QuietTactic
import Derived.Lib.Mul64
namespace Go.Proofs.Ytppidnjhdefbiaa
open Go.RowKit

/-- is a whole number one of 64 bits? -/
def inI (n : Int) : Bool := decide (-9223372036854775808 ≤ n ∧ n ≤ 9223372036854775807)
theorem inI_iff {n : Int} : inI n = true ↔ (-9223372036854775808 ≤ n ∧ n ≤ 9223372036854775807) := by simp [inI]
theorem inI_no {n : Int} : inI n = false ↔ (n < -9223372036854775808 ∨ 9223372036854775807 < n) := by
  simp [inI]; omega

theorem kept {p : Prop} (h : p) : Hid p := h
theorem ret_two {k : IntKind} {a b : Int} {p q : Bool} (h : a = b) (h' : p = q) : Ending.returned (.tuple #[.int k a, .bool p]) = .returned (.tuple #[.int k b, .bool q]) := by rw [h, h']

theorem wrap64_eq (n : Int) : wrap64 n = (n + 9223372036854775808) % 18446744073709551616 - 9223372036854775808 := by unfold wrap64; rfl

theorem add_fits (a b : Int) (ha : inI a = true) (hb : inI b = true) : inI (a + b) = (decide ((a < 0) ↔ ¬ (b < 0)) || decide ((wrap64 (a + b) < 0) ↔ (a < 0))) := by
  rw [inI_iff] at ha hb
  rw [Bool.eq_iff_iff, inI_iff, wrap64_eq]
  simp
  omega

set_option maxHeartbeats 400000 in
theorem add_any (a b : Int) (w : World) (ha : inI a = true) (hb : inI b = true) :
    Calls Try.prog 26 #[.int .i64 a, .int .i64 b] w fun e w' => e = .returned (.tuple #[.int .i64 (wrap64 (a + b)), .bool (inI (a + b))]) ∧ w = w' := by
  have hf := add_fits a b ha hb
  have H := kept hf
  clear hf ha hb
  by_cases h1 : a < 0 <;> by_cases h2 : b < 0 <;> by_cases h3 : wrap64 (a + b) < 0
  all_goals
    go_enter Try.func26, Try.ntmps26
    go_wp2
    go_ret2
    exact ⟨ret_two rfl (by rw [H.out]; first | (simp [h1, h2, h3]; done) | (simp; omega)), rfl⟩

theorem sub_fits (a b : Int) (ha : inI a = true) (hb : inI b = true) : inI (a - b) = (decide ((a < 0) ↔ (b < 0)) || decide ((wrap64 (a - b) < 0) ↔ (a < 0))) := by
  rw [inI_iff] at ha hb
  rw [Bool.eq_iff_iff, inI_iff, wrap64_eq]
  simp
  omega

set_option maxHeartbeats 400000 in
theorem sub_any (a b : Int) (w : World) (ha : inI a = true) (hb : inI b = true) :
    Calls Try.prog 27 #[.int .i64 a, .int .i64 b] w fun e w' => e = .returned (.tuple #[.int .i64 (wrap64 (a - b)), .bool (inI (a - b))]) ∧ w = w' := by
  have hf := sub_fits a b ha hb
  have H := kept hf
  clear hf ha hb
  by_cases h1 : a < 0 <;> by_cases h2 : b < 0 <;> by_cases h3 : wrap64 (a - b) < 0
  all_goals
    go_enter Try.func27, Try.ntmps27
    go_wp2
    go_ret2
    exact ⟨ret_two rfl (by rw [H.out]; first | (simp [h1, h2, h3]; done) | (simp; omega)), rfl⟩

theorem ret_int {k : IntKind} {a b : Int} (h : a = b) : Ending.returned (.int k a) = .returned (.int k b) := by rw [h]
theorem ret_bool {a b : Bool} (h : a = b) : Ending.returned (.bool a) = .returned (.bool b) := by rw [h]
theorem u64_of_neg {a : Int} (ha : inI a = true) (h : a < 0) : IntKind.u64.wrap (-IntKind.u64.wrap a) = (a.natAbs : Int) := by
  rw [inI_iff] at ha
  rw [IntKind.wrap_u64, IntKind.wrap_u64]
  omega
theorem u64_of_pos {a : Int} (ha : inI a = true) (h : 0 ≤ a) : IntKind.u64.wrap a = (a.natAbs : Int) := by
  rw [inI_iff] at ha
  rw [IntKind.wrap_u64]
  omega

theorem wrap64_id {n : Int} (h : inI n = true) : wrap64 n = n := by
  rw [inI_iff] at h; rw [wrap64_eq]; omega

theorem abs_any (a : Int) (w : World) (ha : inI a = true) :
    Calls Try.prog 84 #[.int .i64 a] w fun e w' => e = .returned (.int .u64 (a.natAbs : Int)) ∧ w = w' := by
  by_cases h1 : a < 0
  · go_enter Try.func84, Try.ntmps84
    go_wp2
    go_ret
    exact ⟨ret_int (u64_of_neg ha h1), rfl⟩
  · go_enter Try.func84, Try.ntmps84
    go_wp2
    go_ret
    exact ⟨ret_int (u64_of_pos ha (by omega)), rfl⟩

/-- the product's halves -/
def mHi (x y : Nat) : Int := ((x * y / 18446744073709551616 : Nat) : Int)
def mLo (x y : Nat) : Int := ((x * y % 18446744073709551616 : Nat) : Int)

theorem maskN (a : Nat) (ha : a < 18446744073709551616) : bits .and .u64 (a : Int) 4294967295 = ((a % 4294967296 : Nat) : Int) := by
  have h := bits_and_u64_nat a 4294967295 ha (by omega)
  have e : a &&& 4294967295 = a % 4294967296 := Nat.and_two_pow_sub_one_eq_mod a 32
  rw [e] at h
  exact h
theorem divN (a : Nat) : (a : Int) / 4294967296 = ((a / 4294967296 : Nat) : Int) := by omega
theorem mulN (a b : Nat) : (a : Int) * (b : Int) = ((a * b : Nat) : Int) := (Int.natCast_mul a b).symm
theorem addN (a b : Nat) : (a : Int) + (b : Int) = ((a + b : Nat) : Int) := (Int.natCast_add a b).symm
theorem wrapN (a : Nat) (ha : a < 18446744073709551616) : IntKind.u64.wrap (a : Int) = (a : Int) := by rw [IntKind.wrap_u64]; omega
theorem wrapM (a : Nat) : IntKind.u64.wrap (a : Int) = ((a % 18446744073709551616 : Nat) : Int) := by rw [IntKind.wrap_u64]; omega

set_option maxHeartbeats 1000000 in
theorem mul64_any (x y : Nat) (hx : x < 18446744073709551616) (hy : y < 18446744073709551616) (w : World) :
    Calls Try.prog 83 #[.int .u64 x, .int .u64 y] w fun e w' => e = .returned (.tuple #[.int .u64 (mHi x y), .int .u64 (mLo x y)]) ∧ w = w' := by
  obtain ⟨bd, bt, bw, hhi⟩ := Lib.mul64_hi x y hx hy
  have ba := Lib.half_mul_le (a := x / 4294967296) (b := y / 4294967296) (by omega) (by omega)
  have bb := Lib.half_mul_le (a := x / 4294967296) (b := y % 4294967296) (by omega) (by omega)
  have bc := Lib.half_mul_le (a := x % 4294967296) (b := y / 4294967296) (by omega) (by omega)
  have ba' : x / 4294967296 * (y / 4294967296) < 18446744073709551616 := by omega
  have bb' : x / 4294967296 * (y % 4294967296) < 18446744073709551616 := by omega
  have bc' : x % 4294967296 * (y / 4294967296) < 18446744073709551616 := by omega
  have bh1 : x / 4294967296 * (y / 4294967296) + (x / 4294967296 * (y % 4294967296) + x % 4294967296 * (y % 4294967296) / 4294967296) / 4294967296 < 18446744073709551616 := by omega
  have bh : x / 4294967296 * (y / 4294967296) + (x / 4294967296 * (y % 4294967296) + x % 4294967296 * (y % 4294967296) / 4294967296) / 4294967296 + ((x / 4294967296 * (y % 4294967296) + x % 4294967296 * (y % 4294967296) / 4294967296) % 4294967296 + x % 4294967296 * (y / 4294967296)) / 4294967296 < 18446744073709551616 := by omega
  go_enter Try.func83, Try.ntmps83
  go_wp2
  simp only [maskN x hx, maskN y hy, divN, mulN, addN, wrapN _ bd, wrapN _ bb', wrapN _ bt, maskN _ bt, wrapN _ bc', wrapN _ bw, wrapN _ ba', wrapN _ bh1, wrapN _ bh, wrapM (x * y)]
  rw [hhi]
  go_ret2
  exact ⟨rfl, rfl⟩

theorem mul_same {a b : Int} (h : (a < 0 ∧ b < 0) ∨ (0 ≤ a ∧ 0 ≤ b)) : ((a.natAbs * b.natAbs : Nat) : Int) = a * b := by
  rw [Int.natCast_mul]
  rcases h with ⟨h1, h2⟩ | ⟨h1, h2⟩
  · rw [show (a.natAbs : Int) = -a by omega, show (b.natAbs : Int) = -b by omega, Int.neg_mul_neg]
  · rw [show (a.natAbs : Int) = a by omega, show (b.natAbs : Int) = b by omega]
theorem mul_other {a b : Int} (h : (a < 0 ∧ 0 ≤ b) ∨ (0 ≤ a ∧ b < 0)) : ((a.natAbs * b.natAbs : Nat) : Int) = -(a * b) := by
  rw [Int.natCast_mul]
  rcases h with ⟨h1, h2⟩ | ⟨h1, h2⟩
  · rw [show (a.natAbs : Int) = -a by omega, show (b.natAbs : Int) = b by omega, Int.neg_mul]
  · rw [show (a.natAbs : Int) = a by omega, show (b.natAbs : Int) = -b by omega, Int.mul_neg]

theorem mul_fits_same {a b : Int} (h : (a < 0 ∧ b < 0) ∨ (0 ≤ a ∧ 0 ≤ b)) : inI (a * b) = ((mHi a.natAbs b.natAbs == 0) && decide (mLo a.natAbs b.natAbs ≤ 9223372036854775807)) := by
  have e := mul_same h
  rw [Bool.eq_iff_iff, inI_iff]
  unfold mHi mLo
  generalize a.natAbs * b.natAbs = n at *
  simp
  omega
theorem mul_fits_other {a b : Int} (h : (a < 0 ∧ 0 ≤ b) ∨ (0 ≤ a ∧ b < 0)) : inI (a * b) = ((mHi a.natAbs b.natAbs == 0) && decide (mLo a.natAbs b.natAbs ≤ 9223372036854775808)) := by
  have e := mul_other h
  rw [Bool.eq_iff_iff, inI_iff]
  unfold mHi mLo
  generalize a.natAbs * b.natAbs = n at *
  simp
  omega

theorem abs_lt {a : Int} (ha : inI a = true) : a.natAbs < 18446744073709551616 := by rw [inI_iff] at ha; omega

set_option maxHeartbeats 1000000 in
theorem mul_any (a b : Int) (w : World) (ha : inI a = true) (hb : inI b = true) :
    Calls Try.prog 28 #[.int .i64 a, .int .i64 b] w fun e w' => e = .returned (.tuple #[.int .i64 (wrap64 (a * b)), .bool (inI (a * b))]) ∧ w = w' := by
  have ca := kept (fun w => abs_any a w ha)
  have cb := kept (fun w => abs_any b w hb)
  have cm := kept (fun w => mul64_any a.natAbs b.natAbs (abs_lt ha) (abs_lt hb) w)
  have H : Hid (inI (a * b) = if (a < 0 ∧ b < 0) ∨ (0 ≤ a ∧ 0 ≤ b) then ((mHi a.natAbs b.natAbs == 0) && decide (mLo a.natAbs b.natAbs ≤ 9223372036854775807)) else ((mHi a.natAbs b.natAbs == 0) && decide (mLo a.natAbs b.natAbs ≤ 9223372036854775808))) := by
    show _ = _
    split
    · rename_i h; exact mul_fits_same h
    · exact mul_fits_other (by omega)
  clear ha hb
  rcases Bool.eq_false_or_eq_true (decide (a < 0)) with h1 | h1 <;> rcases Bool.eq_false_or_eq_true (decide (b < 0)) with h2 | h2
  all_goals
    rcases Bool.eq_false_or_eq_true (mHi a.natAbs b.natAbs == 0) with h3 | h3
    all_goals
      go_enter Try.func28, Try.ntmps28
      go_wp2_with fail
      refine (ca.out _).mono ?_
      rintro e w' ⟨rfl, rfl⟩
      go_wp2_with fail
      refine (cb.out _).mono ?_
      rintro e w' ⟨rfl, rfl⟩
      go_wp2_with fail
      refine (cm.out _).mono ?_
      rintro e w' ⟨rfl, rfl⟩
      go_wp2
      go_ret2
      exact ⟨ret_two rfl (by simp only [decide_eq_true_eq, decide_eq_false_iff_not] at h1 h2; rw [H.out]; (first | rw [if_pos (by omega)] | rw [if_neg (by omega)]); simp [h3]), rfl⟩

theorem div_any (a b : Int) (w : World) (hb : ¬ b = 0) :
    Calls Try.prog 20 #[.int .i64 a, .int .i64 b] w fun e w' => e = .returned (.tuple #[.int .i64 (wrap64 (a.tdiv b)), .bool true]) ∧ w = w' := by
  have hb' : (b == 0) = false := by simpa using hb
  go_enter Try.func20, Try.ntmps20
  go_wp2
  go_ret2
  exact ⟨rfl, rfl⟩
theorem div_0 (a : Int) (w : World) :
    Calls Try.prog 20 #[.int .i64 a, .int .i64 0] w fun e w' => e = .returned (.tuple #[.int .i64 0, .bool false]) ∧ w = w' := by
  go_enter Try.func20, Try.ntmps20
  go_wp2
  go_ret2
  exact ⟨rfl, rfl⟩
theorem rem_any (a b : Int) (w : World) (hb : ¬ b = 0) :
    Calls Try.prog 21 #[.int .i64 a, .int .i64 b] w fun e w' => e = .returned (.tuple #[.int .i64 (a.tmod b), .bool true]) ∧ w = w' := by
  have hb' : (b == 0) = false := by simpa using hb
  go_enter Try.func21, Try.ntmps21
  go_wp2
  go_ret2
  exact ⟨rfl, rfl⟩
theorem rem_0 (a : Int) (w : World) :
    Calls Try.prog 21 #[.int .i64 a, .int .i64 0] w fun e w' => e = .returned (.tuple #[.int .i64 0, .bool false]) ∧ w = w' := by
  go_enter Try.func21, Try.ntmps21
  go_wp2
  go_ret2
  exact ⟨rfl, rfl⟩

theorem end_any (b : Bool) (w : World) : Calls Try.prog 82 #[.bool b] w fun e w' => e = .returned (.int .i64 (if b then -9223372036854775808 else 9223372036854775807)) ∧ w = w' := by
  cases b
  all_goals
    go_enter Try.func82, Try.ntmps82
    go_wp2
    go_ret
    exact ⟨rfl, rfl⟩

def sat (a s : Int) : Int := if inI s = true then s else if a < 0 then -9223372036854775808 else 9223372036854775807

theorem sat_any (a b : Int) (w : World) (ha : inI a = true) (hb : inI b = true) :
    Calls Try.prog 24 #[.int .i64 a, .int .i64 b] w fun e w' => e = .returned (.int .i64 (sat a (a + b))) ∧ w = w' := by
  have c := add_any a b w ha hb
  have HC := kept c
  clear c
  by_cases h : inI (a + b) = true <;> by_cases h0 : a < 0
  all_goals
    have hs : sat a (a + b) = sat a (a + b) := rfl
    conv at hs => rhs; unfold sat
    simp only [h, h0, if_true, if_false] at hs
    have HS := kept hs
    clear hs
    go_enter Try.func24, Try.ntmps24
    go_wp2_with (first | (go_at_call 26; refine HC.out.mono ?_; rintro e w' ⟨rfl, rfl⟩) | (go_at_call 82; refine (end_any _ _).mono ?_; rintro e w' ⟨rfl, rfl⟩))
    go_ret
    exact ⟨ret_int (by rw [HS.out]; first | rfl | exact wrap64_id h), rfl⟩

theorem satsub_any (a b : Int) (w : World) (ha : inI a = true) (hb : inI b = true) :
    Calls Try.prog 25 #[.int .i64 a, .int .i64 b] w fun e w' => e = .returned (.int .i64 (sat a (a - b))) ∧ w = w' := by
  have c := sub_any a b w ha hb
  have HC := kept c
  clear c
  by_cases h : inI (a - b) = true <;> by_cases h0 : a < 0
  all_goals
    have hs : sat a (a - b) = sat a (a - b) := rfl
    conv at hs => rhs; unfold sat
    simp only [h, h0, if_true, if_false] at hs
    have HS := kept hs
    clear hs
    go_enter Try.func25, Try.ntmps25
    go_wp2_with (first | (go_at_call 27; refine HC.out.mono ?_; rintro e w' ⟨rfl, rfl⟩) | (go_at_call 82; refine (end_any _ _).mono ?_; rintro e w' ⟨rfl, rfl⟩))
    go_ret
    exact ⟨ret_int (by rw [HS.out]; first | rfl | exact wrap64_id h), rfl⟩
