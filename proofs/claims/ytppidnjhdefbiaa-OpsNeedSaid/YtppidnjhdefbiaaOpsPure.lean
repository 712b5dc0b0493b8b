/- Package ops: the contracts of Pure, TypeOf. -/
import Derived.Test.YtppidnjhdefbiaaOpsRaw
namespace Go.Proofs.Ytppidnjhdefbiaa
open Go.RowKit
set_option linter.unusedVariables false

theorem pure_no (op : Int) (h : op < 0 ∨ 27 ≤ op) (w : World) : Calls Try.prog 52 #[.int .i64 op] w fun e w' => e = .returned (.bool false) ∧ w = w' := by
  have C := kept (fun w => is_no op h w)
  clear h
  go_enter Try.func52, Try.ntmps52
  go_wp2_with fail
  refine (C.out _).mono ?_
  rintro e w' ⟨rfl, rfl⟩
  go_wp2
  go_ret
  exact ⟨rfl, rfl⟩
def pureB (k : Nat) : Bool := !(chkB k) && !(k == 14) && !(k == 17) && !(k == 15)
theorem pure_yes (k : Nat) (hk : k < 27) (w : World) : Calls Try.prog 52 #[.int .i64 k] w fun e w' => e = .returned (.bool (pureB k)) ∧ w = w' := by
  have C := kept (fun w => is_yes k hk w)
  have D := kept (fun w => check_any k w)
  rcases Bool.eq_false_or_eq_true (chkB k) with h | h
  · have e : pureB k = false := by unfold pureB; rw [h]; rfl
    rw [e]
    rw [h] at D
    clear e h
    go_enter Try.func52, Try.ntmps52
    go_wp2_with fail
    refine (C.out _).mono ?_
    rintro e w' ⟨rfl, rfl⟩
    go_wp2_with fail
    refine (D.out _).mono ?_
    rintro e w' ⟨rfl, rfl⟩
    go_wp2
    go_ret
    exact ⟨rfl, rfl⟩
  rw [h] at D
  by_cases h14 : k = 14
  · subst h14
    have e : pureB 14 = false := rfl
    rw [e]
    clear e h
    go_enter Try.func52, Try.ntmps52
    go_wp2_with fail
    refine (C.out _).mono ?_
    rintro e w' ⟨rfl, rfl⟩
    go_wp2_with fail
    refine (D.out _).mono ?_
    rintro e w' ⟨rfl, rfl⟩
    go_wp2
    go_ret
    exact ⟨rfl, rfl⟩
  by_cases h17 : k = 17
  · subst h17
    have e : pureB 17 = false := rfl
    rw [e]
    clear e h
    go_enter Try.func52, Try.ntmps52
    go_wp2_with fail
    refine (C.out _).mono ?_
    rintro e w' ⟨rfl, rfl⟩
    go_wp2_with fail
    refine (D.out _).mono ?_
    rintro e w' ⟨rfl, rfl⟩
    go_wp2
    go_ret
    exact ⟨rfl, rfl⟩
  by_cases h15 : k = 15
  · subst h15
    have e : pureB 15 = false := rfl
    rw [e]
    clear e h
    go_enter Try.func52, Try.ntmps52
    go_wp2_with fail
    refine (C.out _).mono ?_
    rintro e w' ⟨rfl, rfl⟩
    go_wp2_with fail
    refine (D.out _).mono ?_
    rintro e w' ⟨rfl, rfl⟩
    go_wp2
    go_ret
    exact ⟨rfl, rfl⟩
  have e : pureB k = true := by unfold pureB; rw [h]; simp [h14, h17, h15]
  rw [e]
  have b14 : ((k : Int) != 14) = true := by simp; omega
  have b17 : ((k : Int) != 17) = true := by simp; omega
  have b15 : ((k : Int) != 15) = true := by simp; omega
  clear e h h14 h17 h15
  go_enter Try.func52, Try.ntmps52
  go_wp2_with fail
  refine (C.out _).mono ?_
  rintro e w' ⟨rfl, rfl⟩
  go_wp2_with fail
  refine (D.out _).mono ?_
  rintro e w' ⟨rfl, rfl⟩
  go_wp2
  go_ret
  exact ⟨rfl, rfl⟩

theorem str_ne {x s : ByteArray} (h : ¬ x = s) : (x.toList == s.toList) = false := by
  rw [beq_eq_false_iff_ne]
  intro e
  rw [ByteArray.toList_eq, ByteArray.toList_eq] at e
  exact h (ByteArray.ext (Array.toList_inj.1 e))
/-- the type of a word -/
def tfind (s : ByteArray) : Option Int := if tword 0 = s then some 0 else if tword 1 = s then some 1 else if tword 2 = s then some 2 else none
theorem tfind_yes {s : ByteArray} {k : Nat} (hk : k < 3) (h : ∀ j : Nat, j < k → tword j ≠ s) (e : tword k = s) : tfind s = some (k : Int) := by
  unfold tfind
  rcases (show k = 0 ∨ k = 1 ∨ k = 2 by omega) with rfl | rfl | rfl
  · rw [if_pos (show tword 0 = s from e)]; rfl
  · rw [if_neg (show ¬ tword 0 = s from h 0 (by omega)), if_pos (show tword 1 = s from e)]; rfl
  · rw [if_neg (show ¬ tword 0 = s from h 0 (by omega)), if_neg (show ¬ tword 1 = s from h 1 (by omega)), if_pos (show tword 2 = s from e)]; rfl
theorem tfind_no {s : ByteArray} (h : ∀ j : Nat, j < 3 → tword j ≠ s) : tfind s = none := by
  unfold tfind
  rw [if_neg (show ¬ tword 0 = s from h 0 (by omega)), if_neg (show ¬ tword 1 = s from h 1 (by omega)), if_neg (show ¬ tword 2 = s from h 2 (by omega))]

set_option maxHeartbeats 4000000 in
theorem typeof_any (s : ByteArray) (w : World) : Calls Try.prog 41 #[.string s] w fun e w' => e = .returned (.tuple #[.int .i64 ((tfind s).getD 0), .bool (tfind s).isSome]) ∧ w = w' := by
  go_enter Try.func41, Try.ntmps41
  go_wp2
  go_loop [4] (fun i => ∃ k : Nat, k ≤ 3 ∧ i = .int .i64 k ∧ ∀ j : Nat, j < k → tword j ≠ s) (fun i => 3 - (intOf i).toNat)
  case atStart => exact ⟨0, by omega, rfl, fun j hj => by omega⟩
  case round =>
    obtain ⟨k, hk, rfl, hn⟩ := hrel
    have HN := kept hn
    clear hn
    by_cases hlt : k < 3
    · obtain ⟨x, hx⟩ : ∃ x, tword k = x := ⟨_, rfl⟩
      have C := kept (fun w => typeword_any k w)
      rw [hx] at C
      have HX := kept hx
      clear hx
      by_cases he : x = s
      · subst he
        have E := kept (tfind_yes hlt HN.out HX.out)
        go_wp2_with fail
        refine (C.out _).mono ?_
        rintro e w' ⟨rfl, rfl⟩
        go_wp2
        go_ret2
        exact ⟨by rw [E.out]; rfl, rfl⟩
      · have hsn := str_ne he
        go_wp2_with fail
        refine (C.out _).mono ?_
        rintro e w' ⟨rfl, rfl⟩
        go_wp2
        go_round
        case rel => exact ⟨k + 1, by omega, by go_num, fun j hj => by
          by_cases e : j = k
          · subst e; rw [HX.out]; exact he
          · exact HN.out j (by omega)⟩
        case measure => simp [intOf]; omega
    · obtain rfl : k = 3 := by omega
      have E := kept (tfind_no HN.out)
      go_wp2
      go_ret2
      exact ⟨by rw [E.out]; rfl, rfl⟩
end Go.Proofs.Ytppidnjhdefbiaa
